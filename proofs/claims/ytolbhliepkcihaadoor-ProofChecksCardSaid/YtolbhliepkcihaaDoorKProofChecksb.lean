/- Joined by a program of this session (wip/pack.py) for this claim: QPAx1, QPAx2, QPAx3, QPAx4, ProofPure, BindPure, ProofPure2, ProofStub, BindAll, ProvePure, ProvePure2, ProveIdx, Prove0, ProveDel, ProveTok. -/
import Derived.Test.YtolbhliepkcihaaDoorKProofChecksa
import Derived.Sort.OwnSortedInts
import Derived.Lib.SliceRun
section
namespace Go.Proofs.YtolbhliepkcihaaDoor.QPA
open Go.RowKit Kinds YtolbhliepkcihaaDoorW.PrintWords YtolbhliepkcihaaDoorW.PrintLast YtolbhliepkcihaaDoorW.PrintMore
attribute [local go_sem] max2_int min2_int max_two min_two max_three min_three max_four min_four   -- for this text's walks alone
set_option linter.unusedVariables false
set_option linter.unusedSimpArgs false
/-! ### saltuslaw18_cut: function 82 -/
mutual
def saltuslaw18_cut.l0 : Nat → List (List ByteArray) → List (List ByteArray) → Int → Int → Option ((List (List ByteArray)))
 | 0, _, _, _, _ => none
 | k + 1, x3, x13, x14, x15 => if x15 < x14 then (if 0 ≤ x15 then (if x15 < (x13.length : Int) then (if 0 ≤ (mn ((rd_L1 x13 x15).length : Int) 66) then (if (mn ((rd_L1 x13 x15).length : Int) 66) ≤ ((rd_L1 x13 x15).length : Int) then (saltuslaw18_cut.l1 k x3 ([] : List ByteArray) x13 x14 x15 ((rd_L1 x13 x15).take ((mn ((rd_L1 x13 x15).length : Int) 66) : Int).toNat) (((rd_L1 x13 x15).take ((mn ((rd_L1 x13 x15).length : Int) 66) : Int).toNat).length : Int) 0) else (none)) else (none)) else (none)) else (none)) else (some x3)
def saltuslaw18_cut.l1 : Nat → List (List ByteArray) → List ByteArray → List (List ByteArray) → Int → Int → List ByteArray → Int → Int → Option ((List (List ByteArray)))
 | 0, _, _, _, _, _, _, _, _ => none
 | k + 1, x3, x6, x13, x14, x15, x23, x24, x25 => if x25 < x24 then (if 0 ≤ x25 then (if x25 < (x23.length : Int) then (if 0 ≤ (mn ((rdOf ByteArray.empty x23 x25).size : Int) 40) then (if (mn ((rdOf ByteArray.empty x23 x25).size : Int) 40) ≤ ((rdOf ByteArray.empty x23 x25).size : Int) then (if x6.length < 8796093022208 then (saltuslaw18_cut.l1 k x3 (x6 ++ [(rdOf ByteArray.empty x23 x25).extract 0 ((mn ((rdOf ByteArray.empty x23 x25).size : Int) 40) : Int).toNat]) x13 x14 x15 x23 x24 (wrap64 (x25 + 1))) else (none)) else (none)) else (none)) else (none)) else (none)) else (if x3.length < 5864062014805 then (saltuslaw18_cut.l0 k (x3 ++ [x6]) x13 x14 (wrap64 (x15 + 1))) else (none))
end
def saltuslaw18_cut.f (k : Nat) (l0 : List (List ByteArray)) : Option ((List (List ByteArray))) := if 0 ≤ (mn (l0.length : Int) 9) then (if (mn (l0.length : Int) 9) ≤ (l0.length : Int) then ((some (l0.take ((mn (l0.length : Int) 9) : Int).toNat : List (List ByteArray))).bind fun y101 => (saltuslaw18_cut.l0 k ([] : List (List ByteArray)) y101 (y101.length : Int) 0)) else (none)) else (none)
set_option maxHeartbeats 8000000 in
set_option maxRecDepth 100000 in
theorem saltuslaw18_cut.calls (k : Nat) (A0 : Option Addr) (c0 : Nat) (l0 : List (List ByteArray)) (r : List (List ByteArray)) (w : World) (hr0 : Kd.C (Kd.slice 9 Kd.string) w A0 l0.length l0) (hc0 : l0.length ≤ c0) (h : saltuslaw18_cut.f k l0 = some r) :
  Calls Tryd.prog 82 #[.slice A0 l0.length c0] w fun e w' => ∃ v0_ : Value, e = .returned (v0_) ∧ Kd.S (Kd.slice 9 Kd.string) 49 w' w.heap.size (fun _ => True) v0_ r ∧ Below w.heap.size w w' := by
 have HR0 := qf hr0
 have HC0 := qf hc0
 clear hr0 hc0
 have HB := qf (Below.refl w.heap.size w)
 have H : (if 0 ≤ (mn (l0.length : Int) 9) then (if (mn (l0.length : Int) 9) ≤ (l0.length : Int) then ((some (l0.take ((mn (l0.length : Int) 9) : Int).toNat : List (List ByteArray))).bind fun y101 => (saltuslaw18_cut.l0 k ([] : List (List ByteArray)) y101 (y101.length : Int) 0)) else (none)) else (none)) = some r := h
 clear h
 obtain ⟨ji2, hji2⟩ : ∃ j_ : Int, (mn (l0.length : Int) 9) = j_ := ⟨_, rfl⟩
 replace H : (if 0 ≤ (ji2) then (if (ji2) ≤ (l0.length : Int) then ((some (l0.take ((ji2) : Int).toNat : List (List ByteArray))).bind fun y101 => (saltuslaw18_cut.l0 k ([] : List (List ByteArray)) y101 (y101.length : Int) 0)) else (none)) else (none)) = some r := by first | (rw [hji2] at H; exact H) | (simp only [hji2] at H ⊢; exact H)
 (try (have hji2h : ji2 ≤ 9 := by (rw [← hji2]; unfold mn; (repeat' split) <;> omega)))
 (try (have hji2g : ji2 ≤ 64 := by omega))
 (try (have hji2l : 0 ≤ ji2 := by (rw [← hji2]; unfold mn; (repeat' split) <;> omega)))
 (try (have hji2m : 0 ≤ ji2 := by omega))
 have hji2_ : (if 9 < (l0.length : Int) then 9 else (l0.length : Int)) = ji2 := hji2
 by_cases c3 : 0 ≤ (ji2)
 ·rw [if_pos c3] at H
  have c3b0 := eq_true c3
  have c3b1 : decide (0 ≤ (ji2)) = true := qj c3
  clear c3
  by_cases c4 : (ji2) ≤ (l0.length : Int)
  ·rw [if_pos c4] at H
   have c4b0 := eq_true c4
   have c4b1 : decide ((ji2) ≤ (l0.length : Int)) = true := qj c4
   clear c4
   obtain ⟨y101, hy101⟩ : ∃ y_ : List (List ByteArray), y_ = (l0.take ((ji2) : Int).toNat) := ⟨_, rfl⟩
   replace H : (saltuslaw18_cut.l0 k ([] : List (List ByteArray)) y101 (y101.length : Int) 0) = some r := by first | (rw [hy101]; with_reducible exact H) | (have H2_ := (qv _ _).symm.trans H; rw [hy101]; with_reducible exact H2_) | (have H2_ := (qv _ _).symm.trans H; with_reducible exact H2_) | with_reducible exact H | (rw [hy101]; exact H) | exact H
   have Ny101 := qf hy101
   clear hy101
   have H' := qf H
   clear H
   have q5 : ((ji2) : Int) ≤ ((l0.length : Int) : Int) := qe (by first | (with_reducible assumption) | assumption)
   obtain ⟨i05, hi05, _, hsz5, _⟩ := info_parts info49
   have hroom5 : l0.length ≤ c0 := HC0.out
   have hC5 : Kd.C (Kd.slice 9 Kd.string) _ A0 l0.length l0 := HR0.out
   have hcut5 := cut_to (P := Tryd.prog) 76 49 .i64 Tryd.underlying76 hi05 A0 l0.length c0 (ji2) (qe (by first | (with_reducible assumption) | assumption)) q5 hroom5
   have hr5 := Kd.C_take (m := ((ji2) : Int).toNat) hC5 (by omega)
   have hy5 : y101.length = ((ji2) : Int).toNat := (by rw [Ny101.out, qw]; omega)
   rw [← Ny101.out] at hr5
   rw [← hy5] at hcut5
   have HR104 := qf hr5
   have HC104 := qf (show y101.length ≤ c0 from by omega)
   clear hr5 hC5 hroom5 hi05 hsz5
   have KY5 := qf hy5
   clear hy5
   replace q5 := eq_true q5
   go_enter Tryd.func82, Tryd.ntmps82
   go_wp2
   go_loopg [3, 15] k (fun kq v3 v15 w' => ∃ (x3_1 : List (List ByteArray)) (x15_1 : Int), v15 = .int .i64 x15_1 ∧ Aside0 (saltuslaw18_cut.l0 kq x3_1 y101 (y101.length : Int) x15_1 = some r) ∧ Aside0 (kq ≤ k) ∧ Aside0 (Kd.S (Kd.slice 9 Kd.string) 49 w' w.heap.size (fun _ => True) v3 x3_1) ∧ Aside0 (Below w.heap.size w w'))
   case atStart => exact ⟨(([] : List (List ByteArray))), (0), (by first | rfl | (simp; done) | (simp [*]; done)), H', ⟨Nat.le_refl _⟩, ⟨by first | exact Kd.S_nil _ _ _ _ _ | exact Kd.N_nil _ _ _ _ _ | exact Kd.V_nil _ _ _ _ _ | exact Kd.Q_nil _ _ _ _ _ | exact Kd.R_nil _ _ _ _ _⟩, ⟨by repeat (first | (with_reducible first | exact HB.out | apply qa | apply qb | apply qc) | exact HB.out)⟩⟩
   case round =>
    clear H'
    try clear p2
    try clear c3
    try clear c3b0
    try clear c3b1
    try clear c4
    try clear c4b0
    try clear c4b1
    try clear q5
    try clear q5
    obtain ⟨x3_1, x15_1, rfl, HA, HK1, HO_3, HB⟩ := hrel
    cases gk with
    | zero => exact absurd HA.out (by simp [saltuslaw18_cut.l0])
    | succ k1 =>
     have H := HA.out
     clear HA
     simp only [saltuslaw18_cut.l0] at H
     by_cases c6 : x15_1 < (y101.length : Int)
     ·rw [if_pos c6] at H
      have c6b0 : decide (x15_1 < (y101.length : Int)) = true := qj c6
      clear c6
      by_cases c7 : 0 ≤ x15_1
      ·rw [if_pos c7] at H
       have c7b0 : decide (0 ≤ x15_1) = true := qj c7
       clear c7
       by_cases c8 : x15_1 < (y101.length : Int)
       ·rw [if_pos c8] at H
        have c8b0 : decide (x15_1 < (y101.length : Int)) = true := qj c8
        clear c8
        obtain ⟨ji9, hji9⟩ : ∃ j_ : Int, (mn ((rd_L1 y101 x15_1).length : Int) 66) = j_ := ⟨_, rfl⟩
        replace H : (if 0 ≤ (ji9) then (if (ji9) ≤ ((rd_L1 y101 x15_1).length : Int) then (saltuslaw18_cut.l1 k1 x3_1 ([] : List ByteArray) y101 (y101.length : Int) x15_1 ((rd_L1 y101 x15_1).take ((ji9) : Int).toNat) (((rd_L1 y101 x15_1).take ((ji9) : Int).toNat).length : Int) 0) else (none)) else (none)) = some r := by first | (rw [hji9] at H; exact H) | (simp only [hji9] at H ⊢; exact H)
        have hji9_ : (if 66 < ((rd_L1 y101 x15_1).length : Int) then 66 else ((rd_L1 y101 x15_1).length : Int)) = ji9 := hji9
        by_cases c10 : 0 ≤ (ji9)
        ·rw [if_pos c10] at H
         have c10b0 := eq_true c10
         have c10b1 : decide (0 ≤ (ji9)) = true := qj c10
         clear c10
         by_cases c11 : (ji9) ≤ ((rd_L1 y101 x15_1).length : Int)
         ·rw [if_pos c11] at H
          have c11b0 := eq_true c11
          have c11b1 : decide ((ji9) ≤ ((rd_L1 y101 x15_1).length : Int)) = true := qj c11
          clear c11
          have H' := qf H
          clear H
          have p105 : 0 ≤ (x15_1 : Int) := qe (by first | (with_reducible assumption) | assumption)
          have q105 : x15_1 < (y101.length : Int) := qe (by first | (with_reducible assumption) | assumption)
          obtain ⟨ad105, A105_0, c105_0, e105, hx105_0, hl105_0, hi105_0⟩ := at_L1 HR104.out x15_1 p105 q105
          cases e105
          replace hx105_0 := (HB.out.cell (qd w _ hx105_0)).trans hx105_0
          have HR105_0 := qf hi105_0
          have HC105_0 := qf hl105_0
          clear hi105_0 hl105_0
          replace p105 := eq_true p105
          replace q105 := eq_true q105
          obtain ⟨i012, hi012, _, hsz12, _⟩ := info_parts info9
          obtain ⟨hcut12, hA12, hC12⟩ := print_take_of (P := Tryd.prog) Value.string (⟨#[]⟩ : ByteArray) 49 9 .i64 Tryd.underlying49 hi012 hsz12 A105_0 c105_0 (rd_L1 y101 x15_1) (ji9) (qe (by first | (with_reducible assumption) | assumption)) (qe (by first | (with_reducible assumption) | assumption)) HC105_0.out
          have HR106 := qf (Kd.C_of_reads (h1 := fun _ => rfl) (hA12 _ (Kd.reads_of_C HR105_0.out)))
          have HC106 := qf hC12
          clear hA12 hC12 hi012 hsz12
          obtain ⟨lq12, hlq12⟩ : ∃ l_, (rd_L1 y101 x15_1).take ((ji9) : Int).toNat = l_ := ⟨_, rfl⟩
          simp only [hlq12] at hcut12 HR106 HC106 H'
          clear hlq12
          go_wp2
          go_loopg [6, 25] k1 (fun kq v6 v25 w' => ∃ (x6_2 : List ByteArray) (x25_2 : Int), v25 = .int .i64 x25_2 ∧ Aside0 (saltuslaw18_cut.l1 kq x3_1 x6_2 y101 (y101.length : Int) x15_1 lq12 (lq12.length : Int) x25_2 = some r) ∧ Aside0 (kq ≤ k1) ∧ Aside0 (Kd.S (Kd.slice 9 Kd.string) 49 w' w.heap.size (fun k_ => some k_ ≠ (v6 : Value).ownBlock) u3 x3_1) ∧ Aside0 (Kd.R Kd.string 9 w' w.heap.size (fun _ => True) v6 x6_2) ∧ Aside0 (Below w.heap.size w w'))
          case atStart => exact ⟨(([] : List ByteArray)), (0), (by first | rfl | (simp; done) | (simp [*]; done)), H', ⟨Nat.le_refl _⟩, ⟨by (with_reducible repeat (first | apply Kd.S_alloc | apply Kd.S_drewN | apply Kd.S_drew)); exact Kd.S_mono HO_3.out (fun _ hk => (by simp [Value.ownBlock]))⟩, ⟨by first | exact Kd.R_nil _ _ _ _ _ | exact Kd.N_nil _ _ _ _ _ | exact Kd.V_nil _ _ _ _ _ | exact Kd.Q_nil _ _ _ _ _ | exact Kd.S_nil _ _ _ _ _⟩, ⟨by repeat (first | (with_reducible first | exact HB.out | apply qa | apply qb | apply qc) | exact HB.out)⟩⟩
          case round =>
           clear H'
           try clear c1
           try clear p1
           try clear q1
           try clear hx1
           try clear p2
           try clear c3
           try clear c3b0
           try clear c3b1
           try clear c4
           try clear c4b0
           try clear c4b1
           try clear q5
           try clear c6
           try clear c6b0
           try clear c7
           try clear c7b0
           try clear c8
           try clear c8b0
           try clear c10
           try clear c10b0
           try clear c10b1
           try clear p10
           try clear q10
           try clear hx10
           try clear c11
           try clear c11b0
           try clear c11b1
           try clear hx105_0
           try clear p105
           try clear p2
           try clear q105
           try clear q5
           obtain ⟨x6_2, x25_2, rfl, HA, HK2, HO_3, HO_6, HB⟩ := hrel
           cases gk with
           | zero => exact absurd HA.out (by simp [saltuslaw18_cut.l1])
           | succ k2 =>
            have H := HA.out
            clear HA
            simp only [saltuslaw18_cut.l1] at H
            by_cases c13 : x25_2 < (lq12.length : Int)
            ·rw [if_pos c13] at H
             have c13b0 : decide (x25_2 < (lq12.length : Int)) = true := qj c13
             clear c13
             by_cases c14 : 0 ≤ x25_2
             ·rw [if_pos c14] at H
              have c14b0 : decide (0 ≤ x25_2) = true := qj c14
              clear c14
              by_cases c15 : x25_2 < (lq12.length : Int)
              ·rw [if_pos c15] at H
               have c15b0 : decide (x25_2 < (lq12.length : Int)) = true := qj c15
               clear c15
               obtain ⟨ji16, hji16⟩ : ∃ j_ : Int, (mn ((rdOf ByteArray.empty lq12 x25_2).size : Int) 40) = j_ := ⟨_, rfl⟩
               replace H : (if 0 ≤ (ji16) then (if (ji16) ≤ ((rdOf ByteArray.empty lq12 x25_2).size : Int) then (if x6_2.length < 8796093022208 then (saltuslaw18_cut.l1 k2 x3_1 (x6_2 ++ [(rdOf ByteArray.empty lq12 x25_2).extract 0 ((ji16) : Int).toNat]) y101 (y101.length : Int) x15_1 lq12 (lq12.length : Int) (wrap64 (x25_2 + 1))) else (none)) else (none)) else (none)) = some r := by first | (rw [hji16] at H; exact H) | (simp only [hji16] at H ⊢; exact H)
               have hji16_ : (if 40 < ((rdOf ByteArray.empty lq12 x25_2).size : Int) then 40 else ((rdOf ByteArray.empty lq12 x25_2).size : Int)) = ji16 := hji16
               by_cases c17 : 0 ≤ (ji16)
               ·rw [if_pos c17] at H
                have c17b0 := eq_true c17
                have c17b1 : decide (0 ≤ (ji16)) = true := qj c17
                clear c17
                by_cases c18 : (ji16) ≤ ((rdOf ByteArray.empty lq12 x25_2).size : Int)
                ·rw [if_pos c18] at H
                 have c18b0 := eq_true c18
                 have c18b1 : decide ((ji16) ≤ ((rdOf ByteArray.empty lq12 x25_2).size : Int)) = true := qj c18
                 clear c18
                 by_cases c19 : x6_2.length < 8796093022208
                 ·rw [if_pos c19] at H
                  have LMc19 := qf c19
                  clear c19
                  obtain ⟨y108, hy108⟩ : ∃ y_ : List ByteArray, y_ = (x6_2 ++ [(rdOf ByteArray.empty lq12 x25_2).extract 0 ((ji16) : Int).toNat]) := ⟨_, rfl⟩
                  replace H : (saltuslaw18_cut.l1 k2 x3_1 y108 y101 (y101.length : Int) x15_1 lq12 (lq12.length : Int) (wrap64 (x25_2 + 1))) = some r := by first | (rw [hy108]; with_reducible exact H) | (have H2_ := (qv _ _).symm.trans H; rw [hy108]; with_reducible exact H2_) | (have H2_ := (qv _ _).symm.trans H; with_reducible exact H2_) | with_reducible exact H | (rw [hy108]; exact H) | exact H
                  have Ny108 := qf hy108
                  clear hy108
                  have H' := qf H
                  clear H
                  have p107 : 0 ≤ (x25_2 : Int) := qe (by first | (with_reducible assumption) | assumption)
                  have q107 : x25_2 < (lq12.length : Int) := qe (by first | (with_reducible assumption) | assumption)
                  obtain ⟨ad107, e107, hx107_0⟩ := Kd.at_string HR106.out x25_2 p107 q107
                  cases e107
                  replace hx107_0 := (HB.out.cell (qd w _ hx107_0)).trans hx107_0
                  replace p107 := eq_true p107
                  replace q107 := eq_true q107
                  go_wp2_with (((with_reducible refine gate_builtin (b := .append) (xs := #[.tmp 29, .tmp 35]) rfl ?_); at_builtin; refine Kd.R_append Kd.string (w0 := w) w.heap.size rfl (.tmp 29) (.tmp 35) 49 9 (.string ⟨#[]⟩) 16 rfl Tryd.underlying49 info9 rfl (by decide) (by omega) u6 x6_2 ((rdOf ByteArray.empty lq12 x25_2).extract 0 ((ji16) : Int).toNat) [.string ((rdOf ByteArray.empty lq12 x25_2).extract 0 ((ji16) : Int).toNat)] (fun _ => True) (fun _ => False) rfl rfl ?aP (fun _ hk => hk.elim) ?aF ?aO ?aB ?aS ?aL ?_; (case aP => exact rfl); (case aB => exact (by repeat (first | (with_reducible first | exact HB.out | apply qa | apply qb | apply qc) | exact HB.out))); (case aF => exact (fun _ _ => trivial)); (case aO => exact (by (with_reducible repeat (first | apply Kd.R_alloc | apply Kd.R_drewN | apply Kd.R_drew)); exact HO_6.out)); (case aS => exact (below_size (by repeat (first | (with_reducible first | exact HB.out | apply qa | apply qb | apply qc) | exact HB.out)))); (case aL => have := LMc19.out; omega); intro v109 w20 ho hb hg hat; rw [← Ny108.out] at ho; have n0_ := qf (Kd.S_after (ok := (fun _ => True)) (by (with_reducible repeat (first | apply Kd.S_alloc | apply Kd.S_drewN | apply Kd.S_drew)); exact Kd.S_mono HO_3.out (fun _ hk => ⟨trivial, hk⟩)) hg hat); have n1_ := qf (hb); have n2_ := qf (ho); clear HO_3; clear HB; clear HO_6; have HO_3 := n0_; have HB := n1_; have HO110 := n2_; clear n0_ n1_ n2_; clear ho hb hg hat))
                  go_roundg k2
                  case measure => have := HK1.out; have := HK2.out; omega
                  case rel => exact ⟨(y108), (wrap64 (x25_2 + 1)), (by first | rfl | (simp; done) | (simp [*]; done)), H', ⟨by have := HK1.out; have := HK2.out; omega⟩, ⟨by (with_reducible repeat (first | apply Kd.S_alloc | apply Kd.S_drewN | apply Kd.S_drew)); exact Kd.S_mono HO_3.out (fun _ hk => hk.2)⟩, ⟨by (with_reducible repeat (first | apply Kd.R_alloc | apply Kd.R_drewN | apply Kd.R_drew)); exact HO110.out⟩, ⟨by repeat (first | (with_reducible first | exact HB.out | apply qa | apply qb | apply qc) | exact HB.out)⟩⟩
                 ·rw [if_neg c19] at H
                  exact absurd H (by simp)
                ·rw [if_neg c18] at H
                 exact absurd H (by simp)
               ·rw [if_neg c17] at H
                exact absurd H (by simp)
              ·rw [if_neg c15] at H
               exact absurd H (by simp)
             ·rw [if_neg c14] at H
              exact absurd H (by simp)
            ·rw [if_neg c13] at H
             have c13b0 : decide (x25_2 < (lq12.length : Int)) = false := decide_eq_false c13
             clear c13
             by_cases c21 : x3_1.length < 5864062014805
             ·rw [if_pos c21] at H
              have LMc21 := qf c21
              clear c21
              obtain ⟨y111, hy111⟩ : ∃ y_ : List (List ByteArray), y_ = (x3_1 ++ [x6_2]) := ⟨_, rfl⟩
              replace H : (saltuslaw18_cut.l0 k2 y111 y101 (y101.length : Int) (wrap64 (x15_1 + 1))) = some r := by first | (rw [hy111]; with_reducible exact H) | (have H2_ := (qv _ _).symm.trans H; rw [hy111]; with_reducible exact H2_) | (have H2_ := (qv _ _).symm.trans H; with_reducible exact H2_) | with_reducible exact H | (rw [hy111]; exact H) | exact H
              have Ny111 := qf hy111
              clear hy111
              have H' := qf H
              clear H
              obtain ⟨Ao23, co23, eo23⟩ := Kd.R_slice HO_6.out
              subst eo23
              go_wp2_with (((with_reducible refine gate_builtin (b := .append) (xs := #[.tmp 38, .tmp 40]) rfl ?_); at_builtin; refine Kd.S_append (Kd.slice 9 Kd.string) (w0 := w) w.heap.size rfl (.tmp 38) (.tmp 40) 76 49 (.slice none 0 0) 24 rfl Tryd.underlying76 info49 rfl (by decide) (by omega) u3 x3_1 x6_2 [.slice Ao23 x6_2.length co23] (fun _ => True) (fun k_ => some k_ = (.slice Ao23 x6_2.length co23 : Value).ownBlock) rfl rfl ?aP (fun k_ hk_ => ((Kd.R_mono (ok' := fun k_ => ((fun _ => True)) k_ ∧ some k_ ≠ (u3 : Value).ownBlock) (Kd.R_apart' (HO_6.out) (Kd.S_typed HO_3.out) (by decide)) (fun k_ hk => ⟨trivial, hk.2⟩))).1 k_ hk_.symm) ?aF ?aO ?aB ?aS ?aL ?_; (case aP => exact Kd.M_row (Kd.R_mono (Kd.R_tight rfl (Kd.R_mono (ok' := fun k_ => ((fun _ => True)) k_ ∧ some k_ ≠ (u3 : Value).ownBlock) (Kd.R_apart' (HO_6.out) (Kd.S_typed HO_3.out) (by decide)) (fun k_ hk => ⟨trivial, hk.2⟩))) (fun _ h_ => h_))); (case aB => exact (by repeat (first | (with_reducible first | exact HB.out | apply qa | apply qb | apply qc) | exact HB.out))); (case aF => exact (fun _ _ => trivial)); (case aO => exact (by (with_reducible repeat (first | apply Kd.S_alloc | apply Kd.S_drewN | apply Kd.S_drew)); exact Kd.S_mono HO_3.out (fun k_ hk => ⟨trivial, fun e_ => hk e_⟩))); (case aS => exact (below_size (by repeat (first | (with_reducible first | exact HB.out | apply qa | apply qb | apply qc) | exact HB.out)))); (case aL => have := LMc21.out; omega); intro v112 w22 ho hb hg hat; rw [← Ny111.out] at ho; have n0_ := qf (hb); have n1_ := qf (ho); clear HB; clear HO_3; clear HO_6; have HB := n0_; have HO113 := n1_; clear n0_ n1_; clear ho hb hg hat))
              go_roundg k2
              case measure => have := HK1.out; have := HK2.out; omega
              case rel => exact ⟨(y111), (wrap64 (x15_1 + 1)), (by first | rfl | (simp; done) | (simp [*]; done)), H', ⟨by have := HK1.out; have := HK2.out; omega⟩, ⟨by (with_reducible repeat (first | apply Kd.S_alloc | apply Kd.S_drewN | apply Kd.S_drew)); exact HO113.out⟩, ⟨by repeat (first | (with_reducible first | exact HB.out | apply qa | apply qb | apply qc) | exact HB.out)⟩⟩
             ·rw [if_neg c21] at H
              exact absurd H (by simp)
         ·rw [if_neg c11] at H
          exact absurd H (by simp)
        ·rw [if_neg c10] at H
         exact absurd H (by simp)
       ·rw [if_neg c8] at H
        exact absurd H (by simp)
      ·rw [if_neg c7] at H
       exact absurd H (by simp)
     ·rw [if_neg c6] at H
      have c6b0 : decide (x15_1 < (y101.length : Int)) = false := decide_eq_false c6
      clear c6
      obtain rfl := Option.some.inj H
      go_wp2
      go_ret
      exact ⟨_, by first | rfl | (simp [errW_none, errW_some] <;> rfl) | (simp only [← hji2]; first | rfl | (simp [errW_none, errW_some] <;> rfl)) | (simp [*, errW_none, errW_some] <;> rfl), by (with_reducible repeat (first | apply Kd.S_alloc | apply Kd.S_drewN | apply Kd.S_drew)); exact HO_3.out, by repeat (first | (with_reducible first | exact HB.out | apply qa | apply qb | apply qc) | exact HB.out)⟩
  ·rw [if_neg c4] at H
   exact absurd H (by simp)
 ·rw [if_neg c3] at H
  exact absurd H (by simp)
/-! ### saltuslaw18_few: function 52 -/
def saltuslaw18_few.f (k : Nat) (l0_0 : List (List ByteArray)) (l0_1 : List (List ByteArray)) : Option ((List (List ByteArray)) × (List (List ByteArray))) := (saltuslaw18_cut.f k l0_0).bind fun t116 => ((saltuslaw18_cut.f k l0_1).bind fun t119 => (some (t116, t119)))
def saltuslaw18_few.T1 : Bool × List (List Nat × List Nat) := (true, [([], []), ([0], [0]), ([1], [1]), ([], []), ([3], [3]), ([4, 2], [4]), ([2, 5], [2, 5]), ([6, 5, 0, 1, 2, 3, 4, 5, 6], [6])])
def saltuslaw18_few.B1 : List Nat := [0, 1, 3, 0, 8, 31, 63, 127]
theorem saltuslaw18_few.tab1 : rtab .any (opsOf Tryd.f52 1) = saltuslaw18_few.T1 := by kernel_rfl
theorem saltuslaw18_few.bits1 : waitsOk saltuslaw18_few.T1.2 saltuslaw18_few.B1 = true := by kernel_rfl
set_option maxHeartbeats 8000000 in
set_option maxRecDepth 100000 in
theorem saltuslaw18_few.calls (k : Nat) (A0_0 : Option Addr) (c0_0 : Nat) (l0_0 : List (List ByteArray)) (A0_1 : Option Addr) (c0_1 : Nat) (l0_1 : List (List ByteArray)) (r1 : List (List ByteArray)) (r2 : List (List ByteArray)) (w : World) (hr0_0 : Kd.C (Kd.slice 9 Kd.string) w A0_0 l0_0.length l0_0) (hc0_0 : l0_0.length ≤ c0_0) (hr0_1 : Kd.C (Kd.slice 9 Kd.string) w A0_1 l0_1.length l0_1) (hc0_1 : l0_1.length ≤ c0_1) (h : saltuslaw18_few.f k l0_0 l0_1 = some (r1, r2)) :
  Calls Tryd.prog 52 #[.agg #[.slice A0_0 l0_0.length c0_0, .slice A0_1 l0_1.length c0_1]] w fun e w' => ∃ v0_ v1_ : Value, e = .returned (.agg #[v0_, v1_]) ∧ Kd.S (Kd.slice 9 Kd.string) 49 w' w.heap.size (fun k_ => some k_ ≠ (v1_ : Value).ownBlock) v0_ r1 ∧ Kd.S (Kd.slice 9 Kd.string) 49 w' w.heap.size (fun k_ => some k_ ≠ (v0_ : Value).ownBlock) v1_ r2 ∧ Below w.heap.size w w' := by
 have hu78 := Tryd.underlying78
 have HR0_0 := qf hr0_0
 have HC0_0 := qf hc0_0
 clear hr0_0 hc0_0
 have HR0_1 := qf hr0_1
 have HC0_1 := qf hc0_1
 clear hr0_1 hc0_1
 have HB := qf (Below.refl w.heap.size w)
 have H : ((saltuslaw18_cut.f k l0_0).bind fun t116 => ((saltuslaw18_cut.f k l0_1).bind fun t119 => (some (t116, t119)))) = some (r1, r2) := h
 clear h
 replace H := qi H
 obtain ⟨t116, A20, H⟩ := H
 (try dsimp only at H)
 have A2 := qf A20
 clear A20
 replace H := qi H
 obtain ⟨t119, A30, H⟩ := H
 (try dsimp only at H)
 have A3 := qf A30
 clear A30
 simp only [Option.some.injEq, Prod.mk.injEq] at H
 obtain ⟨rfl, rfl⟩ := H
 go_enter Tryd.func52, Tryd.ntmps52
 try go_wp2_with (first | ((with_reducible refine gate_dst (N := 1) rfl ?_); refine box_event ?hg (N := 1) ?hd (cs := #[.slice A0_0 l0_0.length c0_0, .slice A0_1 l0_1.length c0_1]) (t := 78) ?hr ?_; (case hd => rfl); (case hg => rfl); (case hr => first | (go_simp; done) | (go_simp; rfl)); intro gb114 hg w4 hbox hb; have n0_ := qf (below_step (by repeat (first | (with_reducible first | exact HB.out | apply qa | apply qb | apply qc) | exact HB.out)) hb); have n1_ := qf (hbox); have n2_ := qf ((by rw [hg]; exact (below_size (by repeat (first | (with_reducible first | exact HB.out | apply qa | apply qb | apply qc) | exact HB.out))) : w.heap.size ≤ gb114)); have n3_ := qf ((by rw [hg]; exact (below_size (by repeat (first | (with_reducible first | exact HB.out | apply qa | apply qb | apply qc) | exact HB.out))) : w.heap.size ≤ gb114)); clear HB; have HB := n0_; have BK114 := n1_; have GW114 := n2_; have GE114 := n3_; clear n0_ n1_ n2_ n3_; clear hb hbox hg) | ((with_reducible refine gate_dst (N := 2) rfl ?_); refine box_event ?hg (N := 2) ?hd (cs := #[.slice none 0 0, .slice none 0 0]) (t := 78) ?hr ?_; (case hd => rfl); (case hg => rfl); (case hr => first | (go_simp; done) | (go_simp; rfl)); intro gb115 hg w5 hbox hb; have n0_ := qf (blk_below (g := gb114) (o := .cells #[.slice A0_0 l0_0.length c0_0, .slice A0_1 l0_1.length c0_1] 78 (0, 0)) (by (with_reducible repeat (first | refine blk_drewN ?_ _ | refine blk_drew ?_ | refine qh ?_ _)); exact BK114.out) hb); have n1_ := qf (below_step (by repeat (first | (with_reducible first | exact HB.out | apply qa | apply qb | apply qc | refine qg ?_ GE114.out) | exact HB.out)) hb); have n2_ := qf (hbox); have n3_ := qf ((by rw [hg]; exact (below_size (by repeat (first | (with_reducible first | exact HB.out | apply qa | apply qb | apply qc | refine qg ?_ GE114.out) | exact HB.out))) : w.heap.size ≤ gb115)); have n4_ := qf ((by rw [hg]; exact (below_size (by repeat (first | (with_reducible first | exact HB.out | apply qa | apply qb | apply qc | refine qg ?_ GE114.out) | exact HB.out))) : w.heap.size ≤ gb115)); have n5_ := qf ((by rw [hg]; exact Nat.ne_of_lt (blk_lt (g := gb114) (o := .cells #[.slice A0_0 l0_0.length c0_0, .slice A0_1 l0_1.length c0_1] 78 (0, 0)) (by (with_reducible repeat (first | refine blk_drewN ?_ _ | refine blk_drew ?_ | refine qh ?_ _)); exact BK114.out)) : gb114 ≠ gb115)); have n6_ := qf ((by rw [hg]; exact Nat.ne_of_gt (blk_lt (g := gb114) (o := .cells #[.slice A0_0 l0_0.length c0_0, .slice A0_1 l0_1.length c0_1] 78 (0, 0)) (by (with_reducible repeat (first | refine blk_drewN ?_ _ | refine blk_drew ?_ | refine qh ?_ _)); exact BK114.out)) : gb115 ≠ gb114)); clear BK114; clear HB; have BK114 := n0_; have HB := n1_; have BK115 := n2_; have GW115 := n3_; have GE115 := n4_; have NB114_115 := n5_; have NB115_114 := n6_; clear n0_ n1_ n2_ n3_ n4_ n5_ n6_; clear hb hbox hg))
 have n0_ := qf (blk_drew BK114.out)
 have n1_ := qf (blk_drew BK115.out)
 have n2_ := qf (qc HB.out)
 clear BK114
 clear BK115
 clear HB
 have BK114 := n0_
 have BK115 := n1_
 have HB := n2_
 clear n0_ n1_ n2_
 refine start_ (n := 8) (S := fun w' => w'.cell? ⟨gb114, 0, none⟩ = some (.slice A0_0 l0_0.length c0_0) ∧ w'.cell? ⟨gb114, 1, none⟩ = some (.slice A0_1 l0_1.length c0_1)) (ds := []) (bm 8 0) (by kernel_rfl) rfl rfl ⟨(blk_cell BK114.out 0).trans rfl, (blk_cell BK114.out 1).trans rfl⟩ (fun hHeld => ?_); refine with_tabW saltuslaw18_few.tab1 saltuslaw18_few.bits1 (fun HT_ HW_ => ?_)
 generalize w5.drew = w6 at BK114 BK115 HB hHeld ⊢
 refine pure_ (i := 0) (N := some 3) (v := ?_) (a' := ?_) (bm 8 1) rfl rfl (any_of HT_.out (by kernel_rfl)) (fun _ _ _ h => h) (Or.inl ⟨by rfl, ?_⟩) ?_ ?_
 rotate_left
 ·intro w'
  go_simp
  with_reducible rfl
 rotate_left
 ·simp only [Act.put, qs, qt, qu, i64_w, i32_w]
  rfl
 refine pure_ (i := 3) (N := some 6) (v := ?_) (a' := ?_) (bm 8 9) rfl rfl (any_of HT_.out (by kernel_rfl)) (fun _ _ _ h => h) (Or.inl ⟨by rfl, ?_⟩) ?_ ?_
 rotate_left
 ·intro w'
  go_simp
  with_reducible rfl
 rotate_left
 ·simp only [Act.put, qs, qt, qu, i64_w, i32_w]
  rfl
 refine take_ (i := 1) (N := some 4) (v := ?_) (a' := ?_) (bm 8 11) rfl rfl (take_ofW HT_.out HW_.out (by kernel_rfl)) (fun _ _ _ h => h) (Or.inl ⟨by rfl, ?_⟩) hHeld ?_ ?_
 rotate_left
 ·rintro w' ⟨s0, s1⟩
  go_simp
  with_reducible rfl
 rotate_left
 ·simp only [Act.put, qs, qt, qu, i64_w, i32_w]
  rfl
 refine take_ (i := 4) (N := some 7) (v := ?_) (a' := ?_) (bm 8 27) rfl rfl (take_ofW HT_.out HW_.out (by kernel_rfl)) (fun _ _ _ h => h) (Or.inl ⟨by rfl, ?_⟩) hHeld ?_ ?_
 rotate_left
 ·rintro w' ⟨s0, s1⟩
  go_simp
  with_reducible rfl
 rotate_left
 ·simp only [Act.put, qs, qt, qu, i64_w, i32_w]
  rfl
 refine one_ (i := 2) (N := some 5) (bm 8 31) rfl rfl (one_of HT_.out (by kernel_rfl)) (by decide) (fun K hK => ?_)
 refine goes_ Tryd.func82 (by kernel_rfl) rfl #[.slice A0_0 l0_0.length c0_0] (by rfl) rfl rfl (by (try simp only [List.map_toArray, List.map_cons, List.map_nil]); first | done | rfl | (simp only [List.length_drop, qw]; rfl)) ?_
 with_reducible refine (saltuslaw18_cut.calls k _ _ l0_0 t116 _ ?side1 ?side2 A2.out).mono ?_
 (case side1 => repeat (first | exact (Kd.C_below HR0_0.out HB.out) | (with_reducible refine Kd.C_alloc ?_ _) | (with_reducible refine Kd.C_drewN ?_ _) | (with_reducible refine Kd.C_drew ?_)))
 (case side2 => exact HC0_0.out)
 rintro e w7 ⟨v117, rfl, ho0, hb⟩
 refine ⟨_, rfl, ?_⟩
 have n0_ := qf (Kd.S_lower ho0 (below_size (by repeat (first | (with_reducible first | exact HB.out | apply qa | apply qb | apply qc | refine qg ?_ GE114.out | refine qg ?_ GE115.out) | exact HB.out))))
 have n1_ := qf (blk_below (g := gb114) (o := .cells #[.slice A0_0 l0_0.length c0_0, .slice A0_1 l0_1.length c0_1] 78 (0, 0)) (by (with_reducible repeat (first | refine blk_drewN ?_ _ | refine blk_drew ?_ | refine qh ?_ _)); exact BK114.out) hb)
 have n2_ := qf (blk_below (g := gb115) (o := .cells #[.slice none 0 0, .slice none 0 0] 78 (0, 0)) (by (with_reducible repeat (first | refine blk_drewN ?_ _ | refine blk_drew ?_ | refine qh ?_ _)); exact BK115.out) hb)
 have n3_ := qf (below_step (by repeat (first | (with_reducible first | exact HB.out | apply qa | apply qb | apply qc | refine qg ?_ GE114.out | refine qg ?_ GE115.out) | exact HB.out)) hb)
 clear BK114
 clear BK115
 clear HB
 have HO118 := n0_
 have BK114 := n1_
 have BK115 := n2_
 have HB := n3_
 clear n0_ n1_ n2_ n3_
 (try clear hb)
 (try clear hb2)
 (try clear hk)
 (try clear hi)
 (try clear ho0)
 refine hK.out _ _ ⟨(blk_cell BK114.out 0).trans rfl, (blk_cell BK114.out 1).trans rfl⟩ (fun hHeld => ?_)
 clear hK K
 refine norm_ (a' := ?_) ?_ ?_
 rotate_left
 ·show Act.put _ (some 5) _ = _
  simp only [Act.put, qs, qt, qu, i64_w, i32_w]
  rfl
 refine one_ (i := 5) (N := some 8) (bm 8 63) rfl rfl (one_of HT_.out (by kernel_rfl)) (by decide) (fun K hK => ?_)
 refine goes_ Tryd.func82 (by kernel_rfl) rfl #[.slice A0_1 l0_1.length c0_1] (by rfl) rfl rfl (by (try simp only [List.map_toArray, List.map_cons, List.map_nil]); first | done | rfl | (simp only [List.length_drop, qw]; rfl)) ?_
 with_reducible refine (saltuslaw18_cut.calls k _ _ l0_1 t119 _ ?side1 ?side2 A3.out).mono ?_
 (case side1 => repeat (first | exact (Kd.C_below HR0_1.out HB.out) | (with_reducible refine Kd.C_alloc ?_ _) | (with_reducible refine Kd.C_drewN ?_ _) | (with_reducible refine Kd.C_drew ?_)))
 (case side2 => exact HC0_1.out)
 rintro e w8 ⟨v120, rfl, ho0, hb⟩
 refine ⟨_, rfl, ?_⟩
 have n0_ := qf (Kd.S_elder' (by (with_reducible repeat (first | apply Kd.S_alloc | apply Kd.S_drewN | apply Kd.S_drew)); exact HO118.out) (Kd.S_base ho0) hb)
 have n1_ := qf (Kd.S_lower (Kd.S_new' ho0 (Kd.S_lt (by (with_reducible repeat (first | apply Kd.S_alloc | apply Kd.S_drewN | apply Kd.S_drew)); exact HO118.out))) (below_size (by repeat (first | (with_reducible first | exact HB.out | apply qa | apply qb | apply qc | refine qg ?_ GE114.out | refine qg ?_ GE115.out) | exact HB.out))))
 have n2_ := qf (blk_below (g := gb114) (o := .cells #[.slice A0_0 l0_0.length c0_0, .slice A0_1 l0_1.length c0_1] 78 (0, 0)) (by (with_reducible repeat (first | refine blk_drewN ?_ _ | refine blk_drew ?_ | refine qh ?_ _)); exact BK114.out) hb)
 have n3_ := qf (blk_below (g := gb115) (o := .cells #[.slice none 0 0, .slice none 0 0] 78 (0, 0)) (by (with_reducible repeat (first | refine blk_drewN ?_ _ | refine blk_drew ?_ | refine qh ?_ _)); exact BK115.out) hb)
 have n4_ := qf (below_step (by repeat (first | (with_reducible first | exact HB.out | apply qa | apply qb | apply qc | refine qg ?_ GE114.out | refine qg ?_ GE115.out) | exact HB.out)) hb)
 clear HO118
 clear BK114
 clear BK115
 clear HB
 have HO118 := n0_
 have HO121 := n1_
 have BK114 := n2_
 have BK115 := n3_
 have HB := n4_
 clear n0_ n1_ n2_ n3_ n4_
 (try clear hb)
 (try clear hb2)
 (try clear hk)
 (try clear hi)
 (try clear ho0)
 obtain ⟨Ao9, co9, eo9⟩ := Kd.S_slice HO121.out
 (first | subst eo9 | (injection eo9 with f1_ f2_ f3_; have f4_ := f1_.symm; have f5_ := f3_.symm; clear f1_ f2_ f3_; subst f4_; subst f5_))
 obtain ⟨Ao10, co10, eo10⟩ := Kd.S_slice HO118.out
 (first | subst eo10 | (injection eo10 with f1_ f2_ f3_; have f4_ := f1_.symm; have f5_ := f3_.symm; clear f1_ f2_ f3_; subst f4_; subst f5_))
 refine hK.out _ _ ⟨(blk_cell BK114.out 0).trans rfl, (blk_cell BK114.out 1).trans rfl⟩ (fun hHeld => ?_)
 clear hK K
 refine norm_ (a' := ?_) ?_ ?_
 rotate_left
 ·show Act.put _ (some 8) _ = _
  simp only [Act.put, qs, qt, qu, i64_w, i32_w]
  rfl
 refine pure_ (i := 6) (N := some 9) (v := ?_) (a' := ?_) (bm 8 127) rfl rfl (any_of HT_.out (by kernel_rfl)) (fun _ _ _ h => h) (Or.inl ⟨by rfl, ?_⟩) ?_ ?_
 rotate_left
 ·intro w'
  go_simp
  with_reducible rfl
 rotate_left
 ·simp only [Act.put, qs, qt, qu, i64_w, i32_w]
  rfl
 refine one_ (i := 7) (N := none) (bm 8 255) rfl rfl (one_of HT_.out (by kernel_rfl)) (by decide) (fun K hK => ?_)
 have hs11 : w8.cell? ⟨gb115, 0, none⟩ = some (.slice none 0 0) := (blk_cell BK115.out 0).trans rfl
 have hfs11 := blk_frozen BK115.out 0
 have hns11_0 := NB114_115.out
 have hms11_0 := NB115_114.out
 have hs12 : w8.cell? ⟨gb115, 1, none⟩ = some (.slice none 0 0) := (blk_cell BK115.out 1).trans rfl
 have hfs12 := blk_frozen BK115.out 1
 have hns12_0 := NB114_115.out
 have hms12_0 := NB115_114.out
 refine skip_ (w1 := ?_) (by rfl) rfl ?_ ?_
 rotate_left
 ·go_simp
  rfl
 refine hK.out _ _ ⟨((cell_far (p := ⟨gb115, _, none⟩) NB114_115.out _).trans (((cell_far (p := ⟨gb115, _, none⟩) NB114_115.out _).trans (hHeld.1)))), ((cell_far (p := ⟨gb115, _, none⟩) NB114_115.out _).trans (((cell_far (p := ⟨gb115, _, none⟩) NB114_115.out _).trans (hHeld.2))))⟩ (fun hHeld => ?_)
 clear hK K
 refine done_ (done_of HT_.out (by kernel_rfl)) ?_
 try go_wp2
 refine bodyPost_ret (results_cell_row rfl _ _ gb115 78 #[.slice Ao10 t116.length co10, .slice Ao9 t119.length co9] (0, 0) _ rfl (by (with_reducible repeat (first | refine blk_drewN ?_ _ | refine blk_drew ?_ | refine qh ?_ _)); refine blk_put (cs := #[.slice Ao10 t116.length co10, .slice none 0 0]) ?_ 1 _ rfl; (with_reducible repeat (first | refine blk_drewN ?_ _ | refine blk_drew ?_ | refine qh ?_ _)); refine blk_put (cs := #[.slice none 0 0, .slice none 0 0]) ?_ 0 _ rfl; (with_reducible repeat (first | refine blk_drewN ?_ _ | refine blk_drew ?_ | refine qh ?_ _)); exact BK115.out) Tryd.underlying78 rfl (by kernel_rfl)) rfl ?_
 exact ⟨_, _, by first | rfl | (simp [errW_none, errW_some] <;> rfl) | (simp [*, errW_none, errW_some] <;> rfl), by (with_reducible repeat (first | apply Kd.S_alloc | apply Kd.S_drewN | apply Kd.S_drew)); exact Kd.S_mono (Kd.S_far (p := ⟨gb115, 1, none⟩) (Kd.S_far (p := ⟨gb115, 0, none⟩) (Kd.S_types HO118.out BK115.out (by decide)) (fun _ hk => hk.2) (.slice Ao10 t116.length co10)) (fun _ hk => hk.2) (.slice Ao9 t119.length co9)) (fun _ hk => hk.1.2), by (with_reducible repeat (first | apply Kd.S_alloc | apply Kd.S_drewN | apply Kd.S_drew)); exact Kd.S_mono (Kd.S_far (p := ⟨gb115, 1, none⟩) (Kd.S_far (p := ⟨gb115, 0, none⟩) (Kd.S_types HO121.out BK115.out (by decide)) (fun _ hk => hk.2) (.slice Ao10 t116.length co10)) (fun _ hk => hk.2) (.slice Ao9 t119.length co9)) (fun _ hk => hk.1.2), by repeat (first | (with_reducible first | exact HB.out | apply qa | apply qb | apply qc | refine qg ?_ GE114.out | refine qg ?_ GE115.out) | exact HB.out)⟩
end Go.Proofs.YtolbhliepkcihaaDoor.QPA
end
section
namespace Go.Proofs.YtolbhliepkcihaaDoor.QPA
open Go.RowKit Kinds YtolbhliepkcihaaDoorW.PrintWords YtolbhliepkcihaaDoorW.PrintLast YtolbhliepkcihaaDoorW.PrintMore
attribute [local go_sem] max2_int min2_int max_two min_two max_three min_three max_four min_four   -- for this text's walks alone
set_option linter.unusedVariables false
set_option linter.unusedSimpArgs false
/-! ### proof_Steps: function 53 -/
def proof_Steps.l0 : Nat → List ByteArray → Int → List (List ByteArray) → List (List ByteArray) → Option (List ByteArray × Int)
 | 0, _, _, _, _ => none
 | k + 1, x9, x32, x124000, x124001 => if x32 < 8 then (if 0 ≤ x32 then (if x32 < (x9.length : Int) then ((sha_Sum.f (rdOf ByteArray.empty x9 x32)).bind fun t134 => ((codec_Number.f (IntKind.u64.wrap ((IntKind.u64.wrap (x32)) + 1))).bind fun t135 => (if 1 + t135.size ≤ 9223372036854775807 then (if x32 < (x124000.length : Int) then ((strings_Join.f (rd_L1 x124000 x32) (⟨#[]⟩ : ByteArray)).bind fun t137 => (if ((⟨#[2]⟩ : ByteArray) ++ t135).size + t137.size ≤ 9223372036854775807 then (if (((⟨#[2]⟩ : ByteArray) ++ t135) ++ t137).size + t134.size ≤ 9223372036854775807 then (if x32 < (x124001.length : Int) then ((strings_Join.f (rd_L1 x124001 x32) (⟨#[]⟩ : ByteArray)).bind fun t139 => (if ((((⟨#[2]⟩ : ByteArray) ++ t135) ++ t137) ++ t134).size + t139.size ≤ 9223372036854775807 then (if x9.length < 8796093022208 then (proof_Steps.l0 k (x9 ++ [((((⟨#[2]⟩ : ByteArray) ++ t135) ++ t137) ++ t134) ++ t139]) (wrap64 (x32 + 1)) x124000 x124001) else (none)) else (none))) else (none)) else (none)) else (none))) else (none)) else (none)))) else (none)) else (none)) else (some (x9, 0))
def proof_Steps.f (k : Nat) (a0_0 : Int) (a0_1 : ByteArray) (l1_0 : List (List ByteArray)) (l1_1 : List (List ByteArray)) : Option (List ByteArray × Int) := (proof_may.f a0_0 a0_1 l1_0 l1_1).bind fun t124 => (if t124 = 0 then ((codec_Join.f (([(⟨false, a0_0, (⟨#[]⟩ : ByteArray)⟩ : S115), (⟨true, 0, a0_1⟩ : S115)] : List (S115)))).bind fun bt128 => (if 1 + bt128.1.size ≤ 9223372036854775807 then (proof_Steps.l0 k (([(⟨#[0]⟩ : ByteArray) ++ bt128.1] : List ByteArray)) 0 l1_0 l1_1) else (none))) else (some (([] : List ByteArray), t124)))
def proof_Steps.T10 : Bool × List (List Nat × List Nat) := (true, [([], []), ([], []), ([1], [1]), ([2], [2]), ([3], [3]), ([4], [4]), ([], []), ([6], [6]), ([], []), ([7, 8], [7, 8]), ([9], [9]), ([10, 4], [10]), ([5, 11], [5, 11]), ([], []), ([12, 13], [12, 13]), ([], []), ([15], [15]), ([], []), ([16, 17], [16, 17]), ([18], [18]), ([19, 11], [19]), ([14, 20], [14, 20]), ([21], [21]), ([0, 22, 20], [0, 22]), ([23, 23, 0, 1, 2, 3, 4, 5, 6, 7, 8, 9, 10, 11, 12, 13, 14, 15, 16, 17, 18, 19, 20, 21, 22, 23], [0, 23])])
def proof_Steps.B10 : List Nat := [0, 0, 2, 6, 14, 30, 0, 64, 0, 448, 960, 2014, 4094, 0, 16382, 0, 32768, 0, 229376, 491520, 1019870, 2097150, 4194302, 8388607, 16777215]
theorem proof_Steps.tab10 : rtab .any (opsOf Tryd.f53 10) = proof_Steps.T10 := by kernel_rfl
theorem proof_Steps.bits10 : waitsOk proof_Steps.T10.2 proof_Steps.B10 = true := by kernel_rfl
set_option maxHeartbeats 8000000 in
set_option maxRecDepth 100000 in
theorem proof_Steps.calls (k : Nat) (a0_0 : Int) (a0_1 : ByteArray) (A1_0 : Option Addr) (c1_0 : Nat) (l1_0 : List (List ByteArray)) (A1_1 : Option Addr) (c1_1 : Nat) (l1_1 : List (List ByteArray)) (r1 : List ByteArray) (r2 : Int) (w : World) (hr1_0 : Kd.C (Kd.slice 9 Kd.string) w A1_0 l1_0.length l1_0) (hc1_0 : l1_0.length ≤ c1_0) (hr1_1 : Kd.C (Kd.slice 9 Kd.string) w A1_1 l1_1.length l1_1) (hc1_1 : l1_1.length ≤ c1_1) (h : proof_Steps.f k a0_0 a0_1 l1_0 l1_1 = some (r1, r2)) :
  Calls Tryd.prog 53 #[.agg #[.int .u64 a0_0, .string a0_1], .agg #[.slice A1_0 l1_0.length c1_0, .slice A1_1 l1_1.length c1_1]] w fun e w' => ∃ v0_ : Value, e = .returned (.tuple #[v0_, .int .i64 r2]) ∧ Kd.R Kd.string 9 w' w.heap.size (fun _ => True) v0_ r1 ∧ Below w.heap.size w w' := by
 have hu46 := Tryd.underlying46
 have hu78 := Tryd.underlying78
 have hu115 := Tryd.underlying115
 have HR1_0 := qf hr1_0
 have HC1_0 := qf hc1_0
 clear hr1_0 hc1_0
 have HR1_1 := qf hr1_1
 have HC1_1 := qf hc1_1
 clear hr1_1 hc1_1
 have HB := qf (Below.refl w.heap.size w)
 have H : ((proof_may.f a0_0 a0_1 l1_0 l1_1).bind fun t124 => (if t124 = 0 then ((codec_Join.f (([(⟨false, a0_0, (⟨#[]⟩ : ByteArray)⟩ : S115), (⟨true, 0, a0_1⟩ : S115)] : List (S115)))).bind fun bt128 => (if 1 + bt128.1.size ≤ 9223372036854775807 then (proof_Steps.l0 k (([(⟨#[0]⟩ : ByteArray) ++ bt128.1] : List ByteArray)) 0 l1_0 l1_1) else (none))) else (some (([] : List ByteArray), t124)))) = some (r1, r2) := h
 clear h
 replace H := qi H
 obtain ⟨t124, A30, H⟩ := H
 (try dsimp only at H)
 have A3 := qf A30
 clear A30
 by_cases c4 : t124 = 0
 ·rw [if_pos c4] at H
  have c4b0 : (t124 == 0) = true := beq_iff_eq.mpr c4
  have c4b1 : (t124 != 0) = false := bne_eq_false_iff_eq.mpr c4
  clear c4
  obtain ⟨y125, hy125⟩ : ∃ y_ : List (S115), y_ = (([(⟨false, a0_0, (⟨#[]⟩ : ByteArray)⟩ : S115), (⟨true, 0, a0_1⟩ : S115)] : List (S115))) := ⟨_, rfl⟩
  replace H : ((codec_Join.f y125).bind fun bt128 => (if 1 + bt128.1.size ≤ 9223372036854775807 then (proof_Steps.l0 k (([(⟨#[0]⟩ : ByteArray) ++ bt128.1] : List ByteArray)) 0 l1_0 l1_1) else (none))) = some (r1, r2) := by first | (rw [hy125]; with_reducible exact H) | (have H2_ := (qv _ _).symm.trans H; rw [hy125]; with_reducible exact H2_) | (have H2_ := (qv _ _).symm.trans H; with_reducible exact H2_) | with_reducible exact H | (rw [hy125]; exact H) | exact H
  have Ny125 := qf hy125
  clear hy125
  replace H := qi H
  obtain ⟨⟨t128, t129⟩, A50, H⟩ := H
  (try dsimp only at H)
  have A5 := qf A50
  clear A50
  by_cases c6 : 1 + t128.size ≤ 9223372036854775807
  ·rw [if_pos c6] at H
   have c6b0 := eq_true c6
   have c6b1 : decide (1 + t128.size ≤ 9223372036854775807) = true := qj c6
   try have c6b2 : (9223372036854775807 < 1 + t128.size) = False := eq_false (Nat.not_lt.2 c6)
   obtain ⟨y130, hy130⟩ : ∃ y_ : List ByteArray, y_ = (([(⟨#[0]⟩ : ByteArray) ++ t128] : List ByteArray)) := ⟨_, rfl⟩
   replace H : (proof_Steps.l0 k y130 0 l1_0 l1_1) = some (r1, r2) := by first | (rw [hy130]; with_reducible exact H) | (have H2_ := (qv _ _).symm.trans H; rw [hy130]; with_reducible exact H2_) | (have H2_ := (qv _ _).symm.trans H; with_reducible exact H2_) | with_reducible exact H | (rw [hy130]; exact H) | exact H
   have Ny130 := qf hy130
   clear hy130
   have H' := qf H
   clear H
   go_enter Tryd.func53, Tryd.ntmps53
   go_wp2_with (first | ((with_reducible refine gate_dst (N := 2) rfl ?_); refine box_event ?hg (N := 2) ?hd (cs := #[.int .u64 a0_0, .string a0_1]) (t := 46) ?hr ?_; (case hd => rfl); (case hg => rfl); (case hr => first | (go_simp; done) | (go_simp; rfl)); intro gb122 hg w7 hbox hb; have n0_ := qf (below_step (by repeat (first | (with_reducible first | exact HB.out | apply qa | apply qb | apply qc) | exact HB.out)) hb); have n1_ := qf (hbox); have n2_ := qf ((by rw [hg]; exact (below_size (by repeat (first | (with_reducible first | exact HB.out | apply qa | apply qb | apply qc) | exact HB.out))) : w.heap.size ≤ gb122)); have n3_ := qf ((by rw [hg]; exact (below_size (by repeat (first | (with_reducible first | exact HB.out | apply qa | apply qb | apply qc) | exact HB.out))) : w.heap.size ≤ gb122)); clear HB; have HB := n0_; have BK122 := n1_; have GW122 := n2_; have GE122 := n3_; clear n0_ n1_ n2_ n3_; clear hb hbox hg) | ((with_reducible refine gate_dst (N := 3) rfl ?_); refine box_event ?hg (N := 3) ?hd (cs := #[.slice A1_0 l1_0.length c1_0, .slice A1_1 l1_1.length c1_1]) (t := 78) ?hr ?_; (case hd => rfl); (case hg => rfl); (case hr => first | (go_simp; done) | (go_simp; rfl)); intro gb123 hg w8 hbox hb; have n0_ := qf (blk_below (g := gb122) (o := .cells #[.int .u64 a0_0, .string a0_1] 46 (0, 0)) (by (with_reducible repeat (first | refine blk_drewN ?_ _ | refine blk_drew ?_ | refine qh ?_ _)); exact BK122.out) hb); have n1_ := qf (below_step (by repeat (first | (with_reducible first | exact HB.out | apply qa | apply qb | apply qc | refine qg ?_ GE122.out) | exact HB.out)) hb); have n2_ := qf (hbox); have n3_ := qf ((by rw [hg]; exact (below_size (by repeat (first | (with_reducible first | exact HB.out | apply qa | apply qb | apply qc | refine qg ?_ GE122.out) | exact HB.out))) : w.heap.size ≤ gb123)); have n4_ := qf ((by rw [hg]; exact (below_size (by repeat (first | (with_reducible first | exact HB.out | apply qa | apply qb | apply qc | refine qg ?_ GE122.out) | exact HB.out))) : w.heap.size ≤ gb123)); have n5_ := qf ((by rw [hg]; exact Nat.ne_of_lt (blk_lt (g := gb122) (o := .cells #[.int .u64 a0_0, .string a0_1] 46 (0, 0)) (by (with_reducible repeat (first | refine blk_drewN ?_ _ | refine blk_drew ?_ | refine qh ?_ _)); exact BK122.out)) : gb122 ≠ gb123)); have n6_ := qf ((by rw [hg]; exact Nat.ne_of_gt (blk_lt (g := gb122) (o := .cells #[.int .u64 a0_0, .string a0_1] 46 (0, 0)) (by (with_reducible repeat (first | refine blk_drewN ?_ _ | refine blk_drew ?_ | refine qh ?_ _)); exact BK122.out)) : gb123 ≠ gb122)); clear BK122; clear HB; have BK122 := n0_; have HB := n1_; have BK123 := n2_; have GW123 := n3_; have GE123 := n4_; have NB122_123 := n5_; have NB123_122 := n6_; clear n0_ n1_ n2_ n3_ n4_ n5_ n6_; clear hb hbox hg; have hnb9 := NB122_123.out; have hnc9 := NB123_122.out; have hcz10_0 : w8.cell? ⟨gb122, 0, none⟩ = some (.int .u64 a0_0) := (blk_cell BK122.out 0).trans rfl; have hcz10_1 : w8.cell? ⟨gb122, 1, none⟩ = some (.string a0_1) := (blk_cell BK122.out 1).trans rfl; have hfz10_0 := blk_frozen BK122.out 0; have hfz10_1 := blk_frozen BK122.out 1; have hcz11_0 : w8.cell? ⟨gb123, 0, none⟩ = some (.slice A1_0 l1_0.length c1_0) := (blk_cell BK123.out 0).trans rfl; have hcz11_1 : w8.cell? ⟨gb123, 1, none⟩ = some (.slice A1_1 l1_1.length c1_1) := (blk_cell BK123.out 1).trans rfl; have hfz11_0 := blk_frozen BK123.out 0; have hfz11_1 := blk_frozen BK123.out 1) | ((with_reducible refine gate_callee (f := 83) rfl ?_); refine goesL_ (some 14) rfl rfl Tryd.func83 (by kernel_rfl) rfl #[.agg #[.int .u64 a0_0, .string a0_1], .agg #[.slice A1_0 l1_0.length c1_0, .slice A1_1 l1_1.length c1_1]] rfl (by (try simp only [List.map_toArray, List.map_cons, List.map_nil]); first | done | rfl | (simp only [List.length_drop, qw]; rfl)) ?_; (with_reducible refine (proof_may.calls a0_0 a0_1 _ _ l1_0 _ _ l1_1 t124 _ ?side1 ?side2 ?side3 ?side4 A3.out).mono ?_); (case side1 => repeat (first | exact (Kd.C_below HR1_0.out HB.out) | (with_reducible refine Kd.C_alloc ?_ _) | (with_reducible refine Kd.C_drewN ?_ _) | (with_reducible refine Kd.C_drew ?_))); (case side2 => exact HC1_0.out); (case side3 => repeat (first | exact (Kd.C_below HR1_1.out HB.out) | (with_reducible refine Kd.C_alloc ?_ _) | (with_reducible refine Kd.C_drewN ?_ _) | (with_reducible refine Kd.C_drew ?_))); (case side4 => exact HC1_1.out); rintro e w12 ⟨rfl, hb⟩; refine ⟨_, rfl, ?_⟩; have n0_ := qf (blk_below (g := gb122) (o := .cells #[.int .u64 a0_0, .string a0_1] 46 (0, 0)) (by (with_reducible repeat (first | refine blk_drewN ?_ _ | refine blk_drew ?_ | refine qh ?_ _)); exact BK122.out) hb); have n1_ := qf (blk_below (g := gb123) (o := .cells #[.slice A1_0 l1_0.length c1_0, .slice A1_1 l1_1.length c1_1] 78 (0, 0)) (by (with_reducible repeat (first | refine blk_drewN ?_ _ | refine blk_drew ?_ | refine qh ?_ _)); exact BK123.out) hb); have n2_ := qf (below_step (by repeat (first | (with_reducible first | exact HB.out | apply qa | apply qb | apply qc | refine qg ?_ GE122.out | refine qg ?_ GE123.out) | exact HB.out)) hb); clear BK122; clear BK123; clear HB; have BK122 := n0_; have BK123 := n1_; have HB := n2_; clear n0_ n1_ n2_; (try clear hb); (try clear hb2); (try clear hk); (try clear hi); have hcz13_0 : w12.cell? ⟨gb122, 0, none⟩ = some (.int .u64 a0_0) := (blk_cell BK122.out 0).trans rfl; have hcz13_1 : w12.cell? ⟨gb122, 1, none⟩ = some (.string a0_1) := (blk_cell BK122.out 1).trans rfl; have hfz13_0 := blk_frozen BK122.out 0; have hfz13_1 := blk_frozen BK122.out 1) | ((with_reducible refine gate_dst (N := 25) rfl ?_); refine Kd.R_lit k115 _ 115 ?hg (N := 25) ?hd (xs := ([(⟨false, a0_0, (⟨#[]⟩ : ByteArray)⟩ : S115), (⟨true, 0, a0_1⟩ : S115)] : List (S115))) (inner := [.bool false, .int .u64 a0_0, .string (⟨#[]⟩ : ByteArray), .bool true, .int .u64 0, .string a0_1]) (ok := fun _ => True) (okp := fun _ => True) ?hr ?hp (fun _ hk => hk) trivial (Below.refl _ _) (Nat.le_refl _) (by simp) ?_; (case hd => rfl); (case hg => rfl); (case hr => first | (go_simp; done) | (go_simp; rfl)); (case hp => exact (Reps.c3 (show Kd.M k115 _ _ _ (⟨false, a0_0, (⟨#[]⟩ : ByteArray)⟩ : S115) [.bool false, .int .u64 a0_0, .string (⟨#[]⟩ : ByteArray)] from (k115_mkM _ _ _ (⟨false, a0_0, (⟨#[]⟩ : ByteArray)⟩ : S115) )) (Reps.c3 (show Kd.M k115 _ _ _ (⟨true, 0, a0_1⟩ : S115) [.bool true, .int .u64 0, .string a0_1] from (k115_mkM _ _ _ (⟨true, 0, a0_1⟩ : S115) )) (Reps.none _ _)))); intro v126 w14 ho15 hb hg_ hnew_; clear hg_ hnew_; (first | rw [← Ny125.out] at ho15 | (simp only [Int.reduceToNat] at ho15; rw [← Ny125.out] at ho15)); have n0_ := qf (Kd.R_lower ho15 (below_size (by repeat (first | (with_reducible first | exact HB.out | apply qa | apply qb | apply qc | refine qg ?_ GE122.out | refine qg ?_ GE123.out) | exact HB.out)))); have n1_ := qf (blk_below (g := gb122) (o := .cells #[.int .u64 a0_0, .string a0_1] 46 (0, 0)) (by (with_reducible repeat (first | refine blk_drewN ?_ _ | refine blk_drew ?_ | refine qh ?_ _)); exact BK122.out) hb); have n2_ := qf (blk_below (g := gb123) (o := .cells #[.slice A1_0 l1_0.length c1_0, .slice A1_1 l1_1.length c1_1] 78 (0, 0)) (by (with_reducible repeat (first | refine blk_drewN ?_ _ | refine blk_drew ?_ | refine qh ?_ _)); exact BK123.out) hb); have n3_ := qf (below_step (by repeat (first | (with_reducible first | exact HB.out | apply qa | apply qb | apply qc | refine qg ?_ GE122.out | refine qg ?_ GE123.out) | exact HB.out)) hb); clear BK122; clear BK123; clear HB; have HO127 := n0_; have BK122 := n1_; have BK123 := n2_; have HB := n3_; clear n0_ n1_ n2_ n3_; clear hb ho15; obtain ⟨Ao16, co16, eo16⟩ := Kd.R_slice HO127.out; subst eo16) | ((with_reducible refine gate_callee (f := 84) rfl ?_); refine goesL_ (some 26) rfl rfl Tryd.func84 (by kernel_rfl) rfl #[.slice Ao16 y125.length co16] rfl (by (try simp only [List.map_toArray, List.map_cons, List.map_nil]); first | done | rfl | (simp only [List.length_drop, qw]; rfl)) ?_; (with_reducible refine (codec_Join.calls _ _ y125 t128 t129 _ ?side1 ?side2 A5.out).mono ?_); (case side1 => repeat (first | exact (Kd.R_reads' HO127.out).2.2 | (with_reducible refine Kd.C_alloc ?_ _) | (with_reducible refine Kd.C_drewN ?_ _) | (with_reducible refine Kd.C_drew ?_))); (case side2 => exact (Kd.R_reads' HO127.out).2.1); rintro e w17 ⟨rfl, hb⟩; refine ⟨_, rfl, ?_⟩; have n0_ := qf (Kd.R_below (by (with_reducible repeat (first | apply Kd.R_alloc | apply Kd.R_drewN | apply Kd.R_drew)); exact HO127.out) hb); have n1_ := qf (blk_below (g := gb122) (o := .cells #[.int .u64 a0_0, .string a0_1] 46 (0, 0)) (by (with_reducible repeat (first | refine blk_drewN ?_ _ | refine blk_drew ?_ | refine qh ?_ _)); exact BK122.out) hb); have n2_ := qf (blk_below (g := gb123) (o := .cells #[.slice A1_0 l1_0.length c1_0, .slice A1_1 l1_1.length c1_1] 78 (0, 0)) (by (with_reducible repeat (first | refine blk_drewN ?_ _ | refine blk_drew ?_ | refine qh ?_ _)); exact BK123.out) hb); have n3_ := qf (below_step (by repeat (first | (with_reducible first | exact HB.out | apply qa | apply qb | apply qc | refine qg ?_ GE122.out | refine qg ?_ GE123.out) | exact HB.out)) hb); clear HO127; clear BK122; clear BK123; clear HB; have HO127 := n0_; have BK122 := n1_; have BK123 := n2_; have HB := n3_; clear n0_ n1_ n2_ n3_; (try clear hb); (try clear hb2); (try clear hk); (try clear hi)) | ((with_reducible refine gate_dst (N := 31) rfl ?_); refine Kd.R_lit Kd.string _ 9 ?hg (N := 31) ?hd (xs := ([(⟨#[0]⟩ : ByteArray) ++ t128] : List ByteArray)) (inner := [.string ((⟨#[0]⟩ : ByteArray) ++ t128)]) (ok := fun _ => True) (okp := fun _ => True) ?hr ?hp (fun _ hk => hk) trivial (Below.refl _ _) (Nat.le_refl _) (by simp) ?_; (case hd => rfl); (case hg => rfl); (case hr => first | (go_simp; done) | (go_simp; rfl)); (case hp => exact (Reps.one (show Kd.M Kd.string _ _ _ ((⟨#[0]⟩ : ByteArray) ++ t128) [.string ((⟨#[0]⟩ : ByteArray) ++ t128)] from rfl) (Reps.none _ _))); intro v131 w18 ho19 hb hg_ hnew_; clear hg_ hnew_; (first | rw [← Ny130.out] at ho19 | (simp only [Int.reduceToNat] at ho19; rw [← Ny130.out] at ho19)); have n0_ := qf (Kd.R_below (by (with_reducible repeat (first | apply Kd.R_alloc | apply Kd.R_drewN | apply Kd.R_drew)); exact HO127.out) hb); have n1_ := qf (Kd.R_lower ho19 (below_size (by repeat (first | (with_reducible first | exact HB.out | apply qa | apply qb | apply qc | refine qg ?_ GE122.out | refine qg ?_ GE123.out) | exact HB.out)))); have n2_ := qf (blk_below (g := gb122) (o := .cells #[.int .u64 a0_0, .string a0_1] 46 (0, 0)) (by (with_reducible repeat (first | refine blk_drewN ?_ _ | refine blk_drew ?_ | refine qh ?_ _)); exact BK122.out) hb); have n3_ := qf (blk_below (g := gb123) (o := .cells #[.slice A1_0 l1_0.length c1_0, .slice A1_1 l1_1.length c1_1] 78 (0, 0)) (by (with_reducible repeat (first | refine blk_drewN ?_ _ | refine blk_drew ?_ | refine qh ?_ _)); exact BK123.out) hb); have n4_ := qf (below_step (by repeat (first | (with_reducible first | exact HB.out | apply qa | apply qb | apply qc | refine qg ?_ GE122.out | refine qg ?_ GE123.out) | exact HB.out)) hb); clear HO127; clear BK122; clear BK123; clear HB; have HO127 := n0_; have HO132 := n1_; have BK122 := n2_; have BK123 := n3_; have HB := n4_; clear n0_ n1_ n2_ n3_ n4_; clear hb ho19))
   go_loopg [9, 32] k (fun kq v9 v32 w' => ∃ (x9_1 : List ByteArray) (x32_1 : Int), v32 = .int .i64 x32_1 ∧ Aside0 (proof_Steps.l0 kq x9_1 x32_1 l1_0 l1_1 = some (r1, r2)) ∧ Aside0 (kq ≤ k) ∧ Aside0 (Kd.R Kd.string 9 w' w.heap.size (fun _ => True) v9 x9_1) ∧ Aside0 (w'.heap[gb122]? = some (.cells #[.int .u64 a0_0, .string a0_1] 46 (0, 0))) ∧ Aside0 (w'.heap[gb123]? = some (.cells #[(.slice A1_0 l1_0.length c1_0), (.slice A1_1 l1_1.length c1_1)] 78 (0, 0))) ∧ Aside0 (Below w.heap.size w w'))
   case atStart => exact ⟨(y130), (0), (by first | rfl | (simp; done) | (simp [*]; done)), H', ⟨Nat.le_refl _⟩, ⟨by (with_reducible repeat (first | apply Kd.R_alloc | apply Kd.R_drewN | apply Kd.R_drew)); exact HO132.out⟩, ⟨by (with_reducible repeat (first | refine blk_drewN ?_ _ | refine blk_drew ?_ | refine qh ?_ _)); exact BK122.out⟩, ⟨by (with_reducible repeat (first | refine blk_drewN ?_ _ | refine blk_drew ?_ | refine qh ?_ _)); exact BK123.out⟩, ⟨by repeat (first | (with_reducible first | exact HB.out | apply qa | apply qb | apply qc | refine qg ?_ GE122.out | refine qg ?_ GE123.out) | exact HB.out)⟩⟩
   case round =>
    clear H'
    try clear c1
    try clear p2
    try clear c3
    try clear c4
    try clear c4b0
    try clear c4b1
    try clear c5
    try clear c6
    try clear c6b0
    try clear c6b1
    try clear c6b2
    try clear c8
    try clear c9
    try clear hcz10_0
    try clear hcz10_1
    try clear hcz11_0
    try clear hcz11_1
    try clear hcz13_0
    try clear hcz13_1
    try clear hfz10_0
    try clear hfz10_1
    try clear hfz11_0
    try clear hfz11_1
    try clear hfz13_0
    try clear hfz13_1
    obtain ⟨x9_1, x32_1, rfl, HA, HK1, HO_9, BK122, BK123, HB⟩ := hrel
    cases gk with
    | zero => exact absurd HA.out (by simp [proof_Steps.l0])
    | succ k1 =>
     have H := HA.out
     clear HA
     simp only [proof_Steps.l0] at H
     by_cases c20 : x32_1 < 8
     ·rw [if_pos c20] at H
      have c20b0 : decide (x32_1 < 8) = true := qj c20
      clear c20
      by_cases c21 : 0 ≤ x32_1
      ·rw [if_pos c21] at H
       have c21b0 : decide (0 ≤ x32_1) = true := qj c21
       clear c21
       by_cases c22 : x32_1 < (x9_1.length : Int)
       ·rw [if_pos c22] at H
        have c22b0 : decide (x32_1 < (x9_1.length : Int)) = true := qj c22
        clear c22
        replace H := qi H
        obtain ⟨t134, A230, H⟩ := H
        (try dsimp only at H)
        have A23 := qf A230
        clear A230
        replace H := qi H
        obtain ⟨t135, A240, H⟩ := H
        (try dsimp only at H)
        have A24 := qf A240
        clear A240
        by_cases c25 : 1 + t135.size ≤ 9223372036854775807
        ·rw [if_pos c25] at H
         have c25b0 := eq_true c25
         have c25b1 : decide (1 + t135.size ≤ 9223372036854775807) = true := qj c25
         try have c25b2 : (9223372036854775807 < 1 + t135.size) = False := eq_false (Nat.not_lt.2 c25)
         by_cases c26 : x32_1 < (l1_0.length : Int)
         ·rw [if_pos c26] at H
          have c26b0 : decide (x32_1 < (l1_0.length : Int)) = true := qj c26
          clear c26
          replace H := qi H
          obtain ⟨t137, A270, H⟩ := H
          (try dsimp only at H)
          have A27 := qf A270
          clear A270
          by_cases c28 : ((⟨#[2]⟩ : ByteArray) ++ t135).size + t137.size ≤ 9223372036854775807
          ·rw [if_pos c28] at H
           have c28b0 := eq_true c28
           have c28b1 : decide (((⟨#[2]⟩ : ByteArray) ++ t135).size + t137.size ≤ 9223372036854775807) = true := qj c28
           try have c28b2 : (9223372036854775807 < ((⟨#[2]⟩ : ByteArray) ++ t135).size + t137.size) = False := eq_false (Nat.not_lt.2 c28)
           have c28m : (9223372036854775807 < 1 + t135.size + t137.size) = False := by have z0_ : (⟨#[2]⟩ : ByteArray).size = 1 := rfl; have h_ := c28; simp only [ByteArray.size_extract, ByteArray.size_append, Nat.min_self] at h_; exact eq_false (by omega)
           by_cases c29 : (((⟨#[2]⟩ : ByteArray) ++ t135) ++ t137).size + t134.size ≤ 9223372036854775807
           ·rw [if_pos c29] at H
            have c29b0 := eq_true c29
            have c29b1 : decide ((((⟨#[2]⟩ : ByteArray) ++ t135) ++ t137).size + t134.size ≤ 9223372036854775807) = true := qj c29
            try have c29b2 : (9223372036854775807 < (((⟨#[2]⟩ : ByteArray) ++ t135) ++ t137).size + t134.size) = False := eq_false (Nat.not_lt.2 c29)
            have c29m : (9223372036854775807 < (1 + t135.size + t137.size) + t134.size) = False := by have z0_ : (⟨#[2]⟩ : ByteArray).size = 1 := rfl; have h_ := c29; simp only [ByteArray.size_extract, ByteArray.size_append, Nat.min_self] at h_; exact eq_false (by omega)
            by_cases c30 : x32_1 < (l1_1.length : Int)
            ·rw [if_pos c30] at H
             have c30b0 : decide (x32_1 < (l1_1.length : Int)) = true := qj c30
             clear c30
             replace H := qi H
             obtain ⟨t139, A310, H⟩ := H
             (try dsimp only at H)
             have A31 := qf A310
             clear A310
             by_cases c32 : ((((⟨#[2]⟩ : ByteArray) ++ t135) ++ t137) ++ t134).size + t139.size ≤ 9223372036854775807
             ·rw [if_pos c32] at H
              have c32b0 := eq_true c32
              have c32b1 : decide (((((⟨#[2]⟩ : ByteArray) ++ t135) ++ t137) ++ t134).size + t139.size ≤ 9223372036854775807) = true := qj c32
              try have c32b2 : (9223372036854775807 < ((((⟨#[2]⟩ : ByteArray) ++ t135) ++ t137) ++ t134).size + t139.size) = False := eq_false (Nat.not_lt.2 c32)
              have c32m : (9223372036854775807 < ((1 + t135.size + t137.size) + t134.size) + t139.size) = False := by have z0_ : (⟨#[2]⟩ : ByteArray).size = 1 := rfl; have h_ := c32; simp only [ByteArray.size_extract, ByteArray.size_append, Nat.min_self] at h_; exact eq_false (by omega)
              by_cases c33 : x9_1.length < 8796093022208
              ·rw [if_pos c33] at H
               have LMc33 := qf c33
               clear c33
               obtain ⟨y140, hy140⟩ : ∃ y_ : List ByteArray, y_ = (x9_1 ++ [((((⟨#[2]⟩ : ByteArray) ++ t135) ++ t137) ++ t134) ++ t139]) := ⟨_, rfl⟩
               replace H : (proof_Steps.l0 k1 y140 (wrap64 (x32_1 + 1)) l1_0 l1_1) = some (r1, r2) := by first | (rw [hy140]; with_reducible exact H) | (have H2_ := (qv _ _).symm.trans H; rw [hy140]; with_reducible exact H2_) | (have H2_ := (qv _ _).symm.trans H; with_reducible exact H2_) | with_reducible exact H | (rw [hy140]; exact H) | exact H
               have Ny140 := qf hy140
               clear hy140
               have H' := qf H
               clear H
               obtain ⟨Ao34, co34, eo34⟩ := Kd.R_slice HO_9.out
               subst eo34
               have p133 : 0 ≤ (x32_1 : Int) := qe (by first | (with_reducible assumption) | assumption)
               have q133 : x32_1 < (x9_1.length : Int) := qe (by first | (with_reducible assumption) | assumption)
               obtain ⟨ad133, e133, hx133_0⟩ := Kd.at_string (Kd.R_reads' HO_9.out).2.2 x32_1 p133 q133
               cases e133
               replace p133 := eq_true p133
               replace q133 := eq_true q133
               try go_wp2_with (((with_reducible refine gate_callee (f := 85) rfl ?_); refine goesL_ (some 39) rfl rfl Tryd.func85 (by kernel_rfl) rfl #[.string (rdOf ByteArray.empty x9_1 x32_1)] rfl (by (try simp only [List.map_toArray, List.map_cons, List.map_nil]); first | done | rfl | (simp only [List.length_drop, qw]; rfl)) ?_; (with_reducible refine (sha_Sum.calls (rdOf ByteArray.empty x9_1 x32_1) t134 _ A23.out).mono ?_); rintro e w35 ⟨rfl, hb⟩; refine ⟨_, rfl, ?_⟩; have n0_ := qf (Kd.R_below (by (with_reducible repeat (first | apply Kd.R_alloc | apply Kd.R_drewN | apply Kd.R_drew)); exact HO_9.out) hb); have n1_ := qf (blk_below (g := gb122) (o := .cells #[.int .u64 a0_0, .string a0_1] 46 (0, 0)) (by (with_reducible repeat (first | refine blk_drewN ?_ _ | refine blk_drew ?_ | refine qh ?_ _)); exact BK122.out) hb); have n2_ := qf (blk_below (g := gb123) (o := .cells #[.slice A1_0 l1_0.length c1_0, .slice A1_1 l1_1.length c1_1] 78 (0, 0)) (by (with_reducible repeat (first | refine blk_drewN ?_ _ | refine blk_drew ?_ | refine qh ?_ _)); exact BK123.out) hb); have n3_ := qf (below_step (by repeat (first | (with_reducible first | exact HB.out | apply qa | apply qb | apply qc | refine qg ?_ GE122.out | refine qg ?_ GE123.out) | exact HB.out)) hb); clear HO_9; clear BK122; clear BK123; clear HB; have HO_9 := n0_; have BK122 := n1_; have BK123 := n2_; have HB := n3_; clear n0_ n1_ n2_ n3_; (try clear hb); (try clear hb2); (try clear hk); (try clear hi)))
               have n0_ := qf (Kd.R_drew HO_9.out)
               have n1_ := qf (blk_drew BK122.out)
               have n2_ := qf (blk_drew BK123.out)
               have n3_ := qf (qc HB.out)
               clear HO_9
               clear BK122
               clear BK123
               clear HB
               have HO_9 := n0_
               have BK122 := n1_
               have BK123 := n2_
               have HB := n3_
               clear n0_ n1_ n2_ n3_
               have p136 : 0 ≤ (x32_1 : Int) := qe (by first | (with_reducible assumption) | assumption)
               have q136 : x32_1 < (l1_0.length : Int) := qe (by first | (with_reducible assumption) | assumption)
               obtain ⟨ad136, A136_0, c136_0, e136, hx136_0, hl136_0, hi136_0⟩ := at_L1 HR1_0.out x32_1 p136 q136
               have hw136_0 := hx136_0
               cases e136
               replace hx136_0 := (HB.out.cell (qd w _ hx136_0)).trans hx136_0
               have HR136_0 := qf hi136_0
               have HC136_0 := qf hl136_0
               clear hi136_0 hl136_0
               replace p136 := eq_true p136
               replace q136 := eq_true q136
               have p138 : 0 ≤ (x32_1 : Int) := qe (by first | (with_reducible assumption) | assumption)
               have q138 : x32_1 < (l1_1.length : Int) := qe (by first | (with_reducible assumption) | assumption)
               obtain ⟨ad138, A138_0, c138_0, e138, hx138_0, hl138_0, hi138_0⟩ := at_L1 HR1_1.out x32_1 p138 q138
               have hw138_0 := hx138_0
               cases e138
               replace hx138_0 := (HB.out.cell (qd w _ hx138_0)).trans hx138_0
               have HR138_0 := qf hi138_0
               have HC138_0 := qf hl138_0
               clear hi138_0 hl138_0
               replace p138 := eq_true p138
               replace q138 := eq_true q138
               refine start_ (n := 25) (S := fun w' => w'.cell? ⟨gb123, 0, none⟩ = some (.slice (some ad136) l1_0.length c1_0) ∧ w'.cell? ⟨gb123, 1, none⟩ = some (.slice (some ad138) l1_1.length c1_1) ∧ w'.cell? (ad136.add (x32_1).toNat) = some (.slice A136_0 (rd_L1 l1_0 x32_1).length c136_0) ∧ w'.cell? (ad138.add (x32_1).toNat) = some (.slice A138_0 (rd_L1 l1_1 x32_1).length c138_0)) (ds := []) (bm 25 0) (by kernel_rfl) rfl rfl ⟨(blk_cell BK123.out 0).trans rfl, (blk_cell BK123.out 1).trans rfl, ((HB.out.cell (qd w _ hw136_0)).trans hw136_0), ((HB.out.cell (qd w _ hw138_0)).trans hw138_0)⟩ (fun hHeld => ?_); refine with_tabW proof_Steps.tab10 proof_Steps.bits10 (fun HT_ HW_ => ?_)
               generalize w35.drew = w36 at HO_9 BK122 BK123 HB HR136_0 HR138_0 hx136_0 hx138_0 hHeld ⊢
               refine pure_ (i := 0) (N := some 40) (v := ?_) (a' := ?_) (bm 25 1) rfl rfl (any_of HT_.out (by kernel_rfl)) (fun _ _ _ h => h) (Or.inl ⟨by rfl, ?_⟩) ?_ ?_
               rotate_left
               ·intro w'
                go_simp
                with_reducible rfl
               rotate_left
               ·simp only [Act.put, qs, qt, qu, i64_w, i32_w]
                rfl
               refine pure_ (i := 1) (N := some 41) (v := ?_) (a' := ?_) (bm 25 3) rfl rfl (any_of HT_.out (by kernel_rfl)) (fun _ _ _ h => h) (Or.inl ⟨by rfl, ?_⟩) ?_ ?_
               rotate_left
               ·intro w'
                go_simp
                with_reducible rfl
               rotate_left
               ·simp only [Act.put, qs, qt, qu, i64_w, i32_w]
                rfl
               refine pure_ (i := 2) (N := some 42) (v := ?_) (a' := ?_) (bm 25 7) rfl rfl (any_of HT_.out (by kernel_rfl)) (fun _ _ _ h => h) (Or.inl ⟨by rfl, ?_⟩) ?_ ?_
               rotate_left
               ·intro w'
                go_simp
                with_reducible rfl
               rotate_left
               ·simp only [Act.put, qs, qt, qu, i64_w, i32_w]
                rfl
               refine pure_ (i := 3) (N := some 43) (v := ?_) (a' := ?_) (bm 25 15) rfl rfl (any_of HT_.out (by kernel_rfl)) (fun _ _ _ h => h) (Or.inl ⟨by rfl, ?_⟩) ?_ ?_
               rotate_left
               ·intro w'
                go_simp
                with_reducible rfl
               rotate_left
               ·simp only [Act.put, qs, qt, qu, i64_w, i32_w]
                rfl
               refine pure_ (i := 6) (N := some 46) (v := ?_) (a' := ?_) (bm 25 79) rfl rfl (any_of HT_.out (by kernel_rfl)) (fun _ _ _ h => h) (Or.inl ⟨by rfl, ?_⟩) ?_ ?_
               rotate_left
               ·intro w'
                go_simp
                with_reducible rfl
               rotate_left
               ·simp only [Act.put, qs, qt, qu, i64_w, i32_w]
                rfl
               refine pure_ (i := 8) (N := some 48) (v := ?_) (a' := ?_) (bm 25 335) rfl rfl (any_of HT_.out (by kernel_rfl)) (fun _ _ _ h => h) (Or.inl ⟨by rfl, ?_⟩) ?_ ?_
               rotate_left
               ·intro w'
                go_simp
                with_reducible rfl
               rotate_left
               ·simp only [Act.put, qs, qt, qu, i64_w, i32_w]
                rfl
               refine pure_ (i := 13) (N := some 53) (v := ?_) (a' := ?_) (bm 25 8527) rfl rfl (any_of HT_.out (by kernel_rfl)) (fun _ _ _ h => h) (Or.inl ⟨by rfl, ?_⟩) ?_ ?_
               rotate_left
               ·intro w'
                go_simp
                with_reducible rfl
               rotate_left
               ·simp only [Act.put, qs, qt, qu, i64_w, i32_w]
                rfl
               refine pure_ (i := 15) (N := some 55) (v := ?_) (a' := ?_) (bm 25 41295) rfl rfl (any_of HT_.out (by kernel_rfl)) (fun _ _ _ h => h) (Or.inl ⟨by rfl, ?_⟩) ?_ ?_
               rotate_left
               ·intro w'
                go_simp
                with_reducible rfl
               rotate_left
               ·simp only [Act.put, qs, qt, qu, i64_w, i32_w]
                rfl
               refine pure_ (i := 17) (N := some 57) (v := ?_) (a' := ?_) (bm 25 172367) rfl rfl (any_of HT_.out (by kernel_rfl)) (fun _ _ _ h => h) (Or.inl ⟨by rfl, ?_⟩) ?_ ?_
               rotate_left
               ·intro w'
                go_simp
                with_reducible rfl
               rotate_left
               ·simp only [Act.put, qs, qt, qu, i64_w, i32_w]
                rfl
               refine take_ (i := 7) (N := some 47) (v := ?_) (a' := ?_) (bm 25 172495) rfl rfl (take_ofW HT_.out HW_.out (by kernel_rfl)) (fun _ _ _ h => h) (Or.inl ⟨by rfl, ?_⟩) hHeld ?_ ?_
               rotate_left
               ·rintro w' ⟨s0, s1, s2, s3⟩
                go_simp
                with_reducible rfl
               rotate_left
               ·simp only [Act.put, qs, qt, qu, i64_w, i32_w]
                rfl
               refine pure_ (i := 9) (N := some 49) (v := ?_) (a' := ?_) (bm 25 173007) rfl rfl (any_of HT_.out (by kernel_rfl)) (fun _ _ _ h => h) (Or.inl ⟨by rfl, ?_⟩) ?_ ?_
               rotate_left
               ·intro w'
                go_simp
                with_reducible rfl
               rotate_left
               ·simp only [Act.put, qs, qt, qu, i64_w, i32_w]
                rfl
               refine take_ (i := 10) (N := some 50) (v := ?_) (a' := ?_) (bm 25 174031) rfl rfl (take_ofW HT_.out HW_.out (by kernel_rfl)) (fun _ _ _ h => h) (Or.inl ⟨by rfl, ?_⟩) hHeld ?_ ?_
               rotate_left
               ·rintro w' ⟨s0, s1, s2, s3⟩
                go_simp
                with_reducible rfl
               rotate_left
               ·simp only [Act.put, qs, qt, qu, i64_w, i32_w]
                rfl
               refine take_ (i := 16) (N := some 56) (v := ?_) (a' := ?_) (bm 25 239567) rfl rfl (take_ofW HT_.out HW_.out (by kernel_rfl)) (fun _ _ _ h => h) (Or.inl ⟨by rfl, ?_⟩) hHeld ?_ ?_
               rotate_left
               ·rintro w' ⟨s0, s1, s2, s3⟩
                go_simp
                with_reducible rfl
               rotate_left
               ·simp only [Act.put, qs, qt, qu, i64_w, i32_w]
                rfl
               refine pure_ (i := 18) (N := some 58) (v := ?_) (a' := ?_) (bm 25 501711) rfl rfl (any_of HT_.out (by kernel_rfl)) (fun _ _ _ h => h) (Or.inl ⟨by rfl, ?_⟩) ?_ ?_
               rotate_left
               ·intro w'
                go_simp
                with_reducible rfl
               rotate_left
               ·simp only [Act.put, qs, qt, qu, i64_w, i32_w]
                rfl
               refine take_ (i := 19) (N := some 59) (v := ?_) (a' := ?_) (bm 25 1025999) rfl rfl (take_ofW HT_.out HW_.out (by kernel_rfl)) (fun _ _ _ h => h) (Or.inl ⟨by rfl, ?_⟩) hHeld ?_ ?_
               rotate_left
               ·rintro w' ⟨s0, s1, s2, s3⟩
                go_simp
                with_reducible rfl
               rotate_left
               ·simp only [Act.put, qs, qt, qu, i64_w, i32_w]
                rfl
               refine one_ (i := 4) (N := some 44) (bm 25 1026015) rfl rfl (one_of HT_.out (by kernel_rfl)) (by decide) (fun K hK => ?_)
               refine goes_ Tryd.func62 (by kernel_rfl) rfl #[.int .u64 (IntKind.u64.wrap ((IntKind.u64.wrap (x32_1)) + 1))] (by rfl) rfl rfl (by (try simp only [List.map_toArray, List.map_cons, List.map_nil]); first | done | rfl | (simp only [List.length_drop, qw]; rfl)) ?_
               with_reducible refine (codec_Number.calls (IntKind.u64.wrap ((IntKind.u64.wrap (x32_1)) + 1)) t135 _ A24.out).mono ?_
               rintro e w37 ⟨rfl, hb⟩
               refine ⟨_, rfl, ?_⟩
               have n0_ := qf (Kd.R_below (by (with_reducible repeat (first | apply Kd.R_alloc | apply Kd.R_drewN | apply Kd.R_drew)); exact HO_9.out) hb)
               have n1_ := qf (blk_below (g := gb122) (o := .cells #[.int .u64 a0_0, .string a0_1] 46 (0, 0)) (by (with_reducible repeat (first | refine blk_drewN ?_ _ | refine blk_drew ?_ | refine qh ?_ _)); exact BK122.out) hb)
               have n2_ := qf (blk_below (g := gb123) (o := .cells #[.slice (some ad136) l1_0.length c1_0, .slice (some ad138) l1_1.length c1_1] 78 (0, 0)) (by (with_reducible repeat (first | refine blk_drewN ?_ _ | refine blk_drew ?_ | refine qh ?_ _)); exact BK123.out) hb)
               have n3_ := qf (below_step (by repeat (first | (with_reducible first | exact HB.out | apply qa | apply qb | apply qc | refine qg ?_ GE122.out | refine qg ?_ GE123.out) | exact HB.out)) hb)
               clear HO_9
               clear BK122
               clear BK123
               clear HB
               have HO_9 := n0_
               have BK122 := n1_
               have BK123 := n2_
               have HB := n3_
               clear n0_ n1_ n2_ n3_
               (try clear hb)
               (try clear hb2)
               (try clear hk)
               (try clear hi)
               refine hK.out _ _ ⟨(blk_cell BK123.out 0).trans rfl, (blk_cell BK123.out 1).trans rfl, ((HB.out.cell (qd w _ hw136_0)).trans hw136_0), ((HB.out.cell (qd w _ hw138_0)).trans hw138_0)⟩ (fun hHeld => ?_)
               clear hK K
               refine norm_ (a' := ?_) ?_ ?_
               rotate_left
               ·show Act.put _ (some 44) _ = _
                simp only [Act.put, qs, qt, qu, i64_w, i32_w]
                rfl
               refine pure_ (i := 5) (N := some 45) (v := ?_) (a' := ?_) (bm 25 1026047) rfl rfl (any_of HT_.out (by kernel_rfl)) (fun _ _ _ h => h) (Or.inl ⟨by rfl, ?_⟩) ?_ ?_
               rotate_left
               ·intro w'
                go_simp
                with_reducible rfl
               rotate_left
               ·simp only [Act.put, qs, qt, qu, i64_w, i32_w]
                rfl
               refine one_ (i := 11) (N := some 51) (bm 25 1028095) rfl rfl (one_of HT_.out (by kernel_rfl)) (by decide) (fun K hK => ?_)
               refine goes_ Tryd.func86 (by kernel_rfl) rfl #[.slice A136_0 (rd_L1 l1_0 x32_1).length c136_0, .string (⟨#[]⟩ : ByteArray)] (by rfl) rfl rfl (by (try simp only [List.map_toArray, List.map_cons, List.map_nil]); first | done | rfl | (simp only [List.length_drop, qw]; rfl)) ?_
               with_reducible refine (strings_Join.calls _ _ (rd_L1 l1_0 x32_1) (⟨#[]⟩ : ByteArray) t137 _ ?side1 ?side2 A27.out).mono ?_
               (case side1 => repeat (first | exact (Kd.C_below HR136_0.out HB.out) | (with_reducible refine Kd.C_alloc ?_ _) | (with_reducible refine Kd.C_drewN ?_ _) | (with_reducible refine Kd.C_drew ?_)))
               (case side2 => exact HC136_0.out)
               rintro e w38 ⟨rfl, hb⟩
               refine ⟨_, rfl, ?_⟩
               have n0_ := qf (Kd.R_below (by (with_reducible repeat (first | apply Kd.R_alloc | apply Kd.R_drewN | apply Kd.R_drew)); exact HO_9.out) hb)
               have n1_ := qf (blk_below (g := gb122) (o := .cells #[.int .u64 a0_0, .string a0_1] 46 (0, 0)) (by (with_reducible repeat (first | refine blk_drewN ?_ _ | refine blk_drew ?_ | refine qh ?_ _)); exact BK122.out) hb)
               have n2_ := qf (blk_below (g := gb123) (o := .cells #[.slice (some ad136) l1_0.length c1_0, .slice (some ad138) l1_1.length c1_1] 78 (0, 0)) (by (with_reducible repeat (first | refine blk_drewN ?_ _ | refine blk_drew ?_ | refine qh ?_ _)); exact BK123.out) hb)
               have n3_ := qf (below_step (by repeat (first | (with_reducible first | exact HB.out | apply qa | apply qb | apply qc | refine qg ?_ GE122.out | refine qg ?_ GE123.out) | exact HB.out)) hb)
               clear HO_9
               clear BK122
               clear BK123
               clear HB
               have HO_9 := n0_
               have BK122 := n1_
               have BK123 := n2_
               have HB := n3_
               clear n0_ n1_ n2_ n3_
               (try clear hb)
               (try clear hb2)
               (try clear hk)
               (try clear hi)
               refine hK.out _ _ ⟨(blk_cell BK123.out 0).trans rfl, (blk_cell BK123.out 1).trans rfl, ((HB.out.cell (qd w _ hw136_0)).trans hw136_0), ((HB.out.cell (qd w _ hw138_0)).trans hw138_0)⟩ (fun hHeld => ?_)
               clear hK K
               refine norm_ (a' := ?_) ?_ ?_
               rotate_left
               ·show Act.put _ (some 51) _ = _
                simp only [Act.put, qs, qt, qu, i64_w, i32_w]
                rfl
               refine pure_ (i := 12) (N := some 52) (v := ?_) (a' := ?_) (bm 25 1032191) rfl rfl (any_of HT_.out (by kernel_rfl)) (fun _ _ _ h => h) (Or.inl ⟨by rfl, ?_⟩) ?_ ?_
               rotate_left
               ·intro w'
                go_simp
                with_reducible rfl
               rotate_left
               ·simp only [Act.put, qs, qt, qu, i64_w, i32_w]
                rfl
               refine pure_ (i := 14) (N := some 54) (v := ?_) (a' := ?_) (bm 25 1048575) rfl rfl (any_of HT_.out (by kernel_rfl)) (fun _ _ _ h => h) (Or.inl ⟨by rfl, ?_⟩) ?_ ?_
               rotate_left
               ·intro w'
                go_simp
                with_reducible rfl
               rotate_left
               ·simp only [Act.put, qs, qt, qu, i64_w, i32_w]
                rfl
               refine one_ (i := 20) (N := some 60) (bm 25 2097151) rfl rfl (one_of HT_.out (by kernel_rfl)) (by decide) (fun K hK => ?_)
               refine goes_ Tryd.func86 (by kernel_rfl) rfl #[.slice A138_0 (rd_L1 l1_1 x32_1).length c138_0, .string (⟨#[]⟩ : ByteArray)] (by rfl) rfl rfl (by (try simp only [List.map_toArray, List.map_cons, List.map_nil]); first | done | rfl | (simp only [List.length_drop, qw]; rfl)) ?_
               with_reducible refine (strings_Join.calls _ _ (rd_L1 l1_1 x32_1) (⟨#[]⟩ : ByteArray) t139 _ ?side1 ?side2 A31.out).mono ?_
               (case side1 => repeat (first | exact (Kd.C_below HR138_0.out HB.out) | (with_reducible refine Kd.C_alloc ?_ _) | (with_reducible refine Kd.C_drewN ?_ _) | (with_reducible refine Kd.C_drew ?_)))
               (case side2 => exact HC138_0.out)
               rintro e w39 ⟨rfl, hb⟩
               refine ⟨_, rfl, ?_⟩
               have n0_ := qf (Kd.R_below (by (with_reducible repeat (first | apply Kd.R_alloc | apply Kd.R_drewN | apply Kd.R_drew)); exact HO_9.out) hb)
               have n1_ := qf (blk_below (g := gb122) (o := .cells #[.int .u64 a0_0, .string a0_1] 46 (0, 0)) (by (with_reducible repeat (first | refine blk_drewN ?_ _ | refine blk_drew ?_ | refine qh ?_ _)); exact BK122.out) hb)
               have n2_ := qf (blk_below (g := gb123) (o := .cells #[.slice (some ad136) l1_0.length c1_0, .slice (some ad138) l1_1.length c1_1] 78 (0, 0)) (by (with_reducible repeat (first | refine blk_drewN ?_ _ | refine blk_drew ?_ | refine qh ?_ _)); exact BK123.out) hb)
               have n3_ := qf (below_step (by repeat (first | (with_reducible first | exact HB.out | apply qa | apply qb | apply qc | refine qg ?_ GE122.out | refine qg ?_ GE123.out) | exact HB.out)) hb)
               clear HO_9
               clear BK122
               clear BK123
               clear HB
               have HO_9 := n0_
               have BK122 := n1_
               have BK123 := n2_
               have HB := n3_
               clear n0_ n1_ n2_ n3_
               (try clear hb)
               (try clear hb2)
               (try clear hk)
               (try clear hi)
               refine hK.out _ _ ⟨(blk_cell BK123.out 0).trans rfl, (blk_cell BK123.out 1).trans rfl, ((HB.out.cell (qd w _ hw136_0)).trans hw136_0), ((HB.out.cell (qd w _ hw138_0)).trans hw138_0)⟩ (fun hHeld => ?_)
               clear hK K
               refine norm_ (a' := ?_) ?_ ?_
               rotate_left
               ·show Act.put _ (some 60) _ = _
                simp only [Act.put, qs, qt, qu, i64_w, i32_w]
                rfl
               refine pure_ (i := 21) (N := some 61) (v := ?_) (a' := ?_) (bm 25 4194303) rfl rfl (any_of HT_.out (by kernel_rfl)) (fun _ _ _ h => h) (Or.inl ⟨by rfl, ?_⟩) ?_ ?_
               rotate_left
               ·intro w'
                go_simp
                with_reducible rfl
               rotate_left
               ·simp only [Act.put, qs, qt, qu, i64_w, i32_w]
                rfl
               refine one_ (i := 22) (N := some 62) (bm 25 8388607) rfl rfl (one_of HT_.out (by kernel_rfl)) (by decide) (fun K hK => ?_)
               refine value_ (w1 := ?_) (v := ?_) (by rfl) rfl ?_ ?_
               rotate_left 2
               ·go_simp
                constructor
                ·rfl
                ·rfl
               refine hK.out _ _ ⟨(blk_cell (qh BK123.out _) 0).trans rfl, (blk_cell (qh BK123.out _) 1).trans rfl, (World.cell?_alloc_lt _ _ _ (qd _ _ (((HB.out.cell (qd w _ hw136_0)).trans hw136_0)))).trans (((HB.out.cell (qd w _ hw136_0)).trans hw136_0)), (World.cell?_alloc_lt _ _ _ (qd _ _ (((HB.out.cell (qd w _ hw138_0)).trans hw138_0)))).trans (((HB.out.cell (qd w _ hw138_0)).trans hw138_0))⟩ (fun hHeld => ?_)
               clear hK K
               refine norm_ (a' := ?_) ?_ ?_
               rotate_left
               ·show Act.put _ (some 62) _ = _
                simp only [Act.put, qs, qt, qu, i64_w, i32_w]
                rfl
               refine one_ (i := 23) (N := some 63) (bm 25 16777215) rfl rfl (one_of HT_.out (by kernel_rfl)) (by decide) (fun K hK => ?_)
               refine Kd.R_append_step Kd.string (w0 := w) w.heap.size (by rfl) (.tmp 40) (.tmp 62) 49 9 (.string ⟨#[]⟩) 16 rfl Tryd.underlying49 info9 rfl (by decide) (by omega) (.slice (some ad133) x9_1.length co34) x9_1 (((((⟨#[2]⟩ : ByteArray) ++ t135) ++ t137) ++ t134) ++ t139) [.string (((((⟨#[2]⟩ : ByteArray) ++ t135) ++ t137) ++ t134) ++ t139)] (fun _ => True) (fun _ => False) rfl rfl ?aP (fun _ hk => hk.elim) ?aF ?aO ?aB ?aS ?aL ?_
               (case aP => exact rfl)
               (case aB => exact (by repeat (first | (with_reducible first | exact HB.out | apply qa | apply qb | apply qc | refine qg ?_ GE122.out | refine qg ?_ GE123.out) | exact HB.out)))
               (case aF => exact (fun _ _ => trivial))
               (case aO => exact (by (with_reducible repeat (first | apply Kd.R_alloc | apply Kd.R_drewN | apply Kd.R_drew)); exact HO_9.out))
               (case aS => exact (below_size (by repeat (first | (with_reducible first | exact HB.out | apply qa | apply qb | apply qc | refine qg ?_ GE122.out | refine qg ?_ GE123.out) | exact HB.out))))
               (case aL => have := LMc33.out; omega)
               intro v141 w40 ho hb hg hat
               rw [← Ny140.out] at ho
               have n0_ := qf (blk_grown (g := gb122) (o := .cells #[.int .u64 a0_0, .string a0_1] 46 (0, 0)) (by (with_reducible repeat (first | refine blk_drewN ?_ _ | refine blk_drew ?_ | refine qh ?_ _)); exact BK122.out) hg (Kd.R_ne HO_9.out BK122.out (by decide)))
               have n1_ := qf (blk_grown (g := gb123) (o := .cells #[.slice (some ad136) l1_0.length c1_0, .slice (some ad138) l1_1.length c1_1] 78 (0, 0)) (by (with_reducible repeat (first | refine blk_drewN ?_ _ | refine blk_drew ?_ | refine qh ?_ _)); exact BK123.out) hg (Kd.R_ne HO_9.out BK123.out (by decide)))
               have n2_ := qf (hb)
               have n3_ := qf (ho)
               clear BK122
               clear BK123
               clear HB
               clear HO_9
               have BK122 := n0_
               have BK123 := n1_
               have HB := n2_
               have HO142 := n3_
               clear n0_ n1_ n2_ n3_
               clear ho hb hg hat
               refine hK.out _ _ ⟨(blk_cell BK123.out 0).trans rfl, (blk_cell BK123.out 1).trans rfl, ((HB.out.cell (qd w _ hw136_0)).trans hw136_0), ((HB.out.cell (qd w _ hw138_0)).trans hw138_0)⟩ (fun hHeld => ?_)
               clear hK K
               refine norm_ (a' := ?_) ?_ ?_
               rotate_left
               ·show Act.put _ (some 63) _ = _
                simp only [Act.put, qs, qt, qu, i64_w, i32_w]
                rfl
               refine pure_ (i := 24) (N := some 9) (v := ?_) (a' := ?_) (bm 25 33554431) rfl rfl (any_of HT_.out (by kernel_rfl)) (fun _ _ _ h => h) (Or.inl ⟨by rfl, ?_⟩) ?_ ?_
               rotate_left
               ·intro w'
                go_simp
                with_reducible rfl
               rotate_left
               ·simp only [Act.put, qs, qt, qu, i64_w, i32_w]
                rfl
               refine done_ (done_of HT_.out (by kernel_rfl)) ?_
               try go_wp2
               go_roundg k1
               case measure => have := HK1.out; omega
               case rel => exact ⟨(y140), (wrap64 (x32_1 + 1)), (by first | rfl | (simp; done) | (simp [*]; done)), H', ⟨by have := HK1.out; omega⟩, ⟨by (with_reducible repeat (first | apply Kd.R_alloc | apply Kd.R_drewN | apply Kd.R_drew)); exact HO142.out⟩, ⟨by (with_reducible repeat (first | refine blk_drewN ?_ _ | refine blk_drew ?_ | refine qh ?_ _)); exact BK122.out⟩, ⟨by (with_reducible repeat (first | refine blk_drewN ?_ _ | refine blk_drew ?_ | refine qh ?_ _)); exact BK123.out⟩, ⟨by repeat (first | (with_reducible first | exact HB.out | apply qa | apply qb | apply qc | refine qg ?_ GE122.out | refine qg ?_ GE123.out) | exact HB.out)⟩⟩
              ·rw [if_neg c33] at H
               exact absurd H (by simp)
             ·rw [if_neg c32] at H
              exact absurd H (by simp)
            ·rw [if_neg c30] at H
             exact absurd H (by simp)
           ·rw [if_neg c29] at H
            exact absurd H (by simp)
          ·rw [if_neg c28] at H
           exact absurd H (by simp)
         ·rw [if_neg c26] at H
          exact absurd H (by simp)
        ·rw [if_neg c25] at H
         exact absurd H (by simp)
       ·rw [if_neg c22] at H
        exact absurd H (by simp)
      ·rw [if_neg c21] at H
       exact absurd H (by simp)
     ·rw [if_neg c20] at H
      have c20b0 : decide (x32_1 < 8) = false := decide_eq_false c20
      clear c20
      simp only [Option.some.injEq, Prod.mk.injEq] at H
      obtain ⟨rfl, rfl⟩ := H
      go_wp2
      go_ret2
      exact ⟨_, by first | rfl | (simp [errW_none, errW_some] <;> rfl) | (simp [*, errW_none, errW_some] <;> rfl), by (with_reducible repeat (first | apply Kd.R_alloc | apply Kd.R_drewN | apply Kd.R_drew)); exact HO_9.out, by repeat (first | (with_reducible first | exact HB.out | apply qa | apply qb | apply qc | refine qg ?_ GE122.out | refine qg ?_ GE123.out) | exact HB.out)⟩
  ·rw [if_neg c6] at H
   exact absurd H (by simp)
 ·rw [if_neg c4] at H
  have c4b0 : (t124 == 0) = false := beq_eq_false_iff_ne.mpr c4
  have c4b1 : (t124 != 0) = true := bne_iff_ne.mpr c4
  simp only [Option.some.injEq, Prod.mk.injEq] at H
  obtain ⟨rfl, rfl⟩ := H
  go_enter Tryd.func53, Tryd.ntmps53
  go_wp2_with (first | ((with_reducible refine gate_dst (N := 2) rfl ?_); refine box_event ?hg (N := 2) ?hd (cs := #[.int .u64 a0_0, .string a0_1]) (t := 46) ?hr ?_; (case hd => rfl); (case hg => rfl); (case hr => first | (go_simp; done) | (go_simp; rfl)); intro gb122 hg w41 hbox hb; have n0_ := qf (below_step (by repeat (first | (with_reducible first | exact HB.out | apply qa | apply qb | apply qc) | exact HB.out)) hb); have n1_ := qf (hbox); have n2_ := qf ((by rw [hg]; exact (below_size (by repeat (first | (with_reducible first | exact HB.out | apply qa | apply qb | apply qc) | exact HB.out))) : w.heap.size ≤ gb122)); have n3_ := qf ((by rw [hg]; exact (below_size (by repeat (first | (with_reducible first | exact HB.out | apply qa | apply qb | apply qc) | exact HB.out))) : w.heap.size ≤ gb122)); clear HB; have HB := n0_; have BK122 := n1_; have GW122 := n2_; have GE122 := n3_; clear n0_ n1_ n2_ n3_; clear hb hbox hg) | ((with_reducible refine gate_dst (N := 3) rfl ?_); refine box_event ?hg (N := 3) ?hd (cs := #[.slice A1_0 l1_0.length c1_0, .slice A1_1 l1_1.length c1_1]) (t := 78) ?hr ?_; (case hd => rfl); (case hg => rfl); (case hr => first | (go_simp; done) | (go_simp; rfl)); intro gb123 hg w42 hbox hb; have n0_ := qf (blk_below (g := gb122) (o := .cells #[.int .u64 a0_0, .string a0_1] 46 (0, 0)) (by (with_reducible repeat (first | refine blk_drewN ?_ _ | refine blk_drew ?_ | refine qh ?_ _)); exact BK122.out) hb); have n1_ := qf (below_step (by repeat (first | (with_reducible first | exact HB.out | apply qa | apply qb | apply qc | refine qg ?_ GE122.out) | exact HB.out)) hb); have n2_ := qf (hbox); have n3_ := qf ((by rw [hg]; exact (below_size (by repeat (first | (with_reducible first | exact HB.out | apply qa | apply qb | apply qc | refine qg ?_ GE122.out) | exact HB.out))) : w.heap.size ≤ gb123)); have n4_ := qf ((by rw [hg]; exact (below_size (by repeat (first | (with_reducible first | exact HB.out | apply qa | apply qb | apply qc | refine qg ?_ GE122.out) | exact HB.out))) : w.heap.size ≤ gb123)); have n5_ := qf ((by rw [hg]; exact Nat.ne_of_lt (blk_lt (g := gb122) (o := .cells #[.int .u64 a0_0, .string a0_1] 46 (0, 0)) (by (with_reducible repeat (first | refine blk_drewN ?_ _ | refine blk_drew ?_ | refine qh ?_ _)); exact BK122.out)) : gb122 ≠ gb123)); have n6_ := qf ((by rw [hg]; exact Nat.ne_of_gt (blk_lt (g := gb122) (o := .cells #[.int .u64 a0_0, .string a0_1] 46 (0, 0)) (by (with_reducible repeat (first | refine blk_drewN ?_ _ | refine blk_drew ?_ | refine qh ?_ _)); exact BK122.out)) : gb123 ≠ gb122)); clear BK122; clear HB; have BK122 := n0_; have HB := n1_; have BK123 := n2_; have GW123 := n3_; have GE123 := n4_; have NB122_123 := n5_; have NB123_122 := n6_; clear n0_ n1_ n2_ n3_ n4_ n5_ n6_; clear hb hbox hg; have hnb43 := NB122_123.out; have hnc43 := NB123_122.out; have hcz44_0 : w42.cell? ⟨gb122, 0, none⟩ = some (.int .u64 a0_0) := (blk_cell BK122.out 0).trans rfl; have hcz44_1 : w42.cell? ⟨gb122, 1, none⟩ = some (.string a0_1) := (blk_cell BK122.out 1).trans rfl; have hfz44_0 := blk_frozen BK122.out 0; have hfz44_1 := blk_frozen BK122.out 1; have hcz45_0 : w42.cell? ⟨gb123, 0, none⟩ = some (.slice A1_0 l1_0.length c1_0) := (blk_cell BK123.out 0).trans rfl; have hcz45_1 : w42.cell? ⟨gb123, 1, none⟩ = some (.slice A1_1 l1_1.length c1_1) := (blk_cell BK123.out 1).trans rfl; have hfz45_0 := blk_frozen BK123.out 0; have hfz45_1 := blk_frozen BK123.out 1) | ((with_reducible refine gate_callee (f := 83) rfl ?_); refine goesL_ (some 14) rfl rfl Tryd.func83 (by kernel_rfl) rfl #[.agg #[.int .u64 a0_0, .string a0_1], .agg #[.slice A1_0 l1_0.length c1_0, .slice A1_1 l1_1.length c1_1]] rfl (by (try simp only [List.map_toArray, List.map_cons, List.map_nil]); first | done | rfl | (simp only [List.length_drop, qw]; rfl)) ?_; (with_reducible refine (proof_may.calls a0_0 a0_1 _ _ l1_0 _ _ l1_1 t124 _ ?side1 ?side2 ?side3 ?side4 A3.out).mono ?_); (case side1 => repeat (first | exact (Kd.C_below HR1_0.out HB.out) | (with_reducible refine Kd.C_alloc ?_ _) | (with_reducible refine Kd.C_drewN ?_ _) | (with_reducible refine Kd.C_drew ?_))); (case side2 => exact HC1_0.out); (case side3 => repeat (first | exact (Kd.C_below HR1_1.out HB.out) | (with_reducible refine Kd.C_alloc ?_ _) | (with_reducible refine Kd.C_drewN ?_ _) | (with_reducible refine Kd.C_drew ?_))); (case side4 => exact HC1_1.out); rintro e w46 ⟨rfl, hb⟩; refine ⟨_, rfl, ?_⟩; have n0_ := qf (blk_below (g := gb122) (o := .cells #[.int .u64 a0_0, .string a0_1] 46 (0, 0)) (by (with_reducible repeat (first | refine blk_drewN ?_ _ | refine blk_drew ?_ | refine qh ?_ _)); exact BK122.out) hb); have n1_ := qf (blk_below (g := gb123) (o := .cells #[.slice A1_0 l1_0.length c1_0, .slice A1_1 l1_1.length c1_1] 78 (0, 0)) (by (with_reducible repeat (first | refine blk_drewN ?_ _ | refine blk_drew ?_ | refine qh ?_ _)); exact BK123.out) hb); have n2_ := qf (below_step (by repeat (first | (with_reducible first | exact HB.out | apply qa | apply qb | apply qc | refine qg ?_ GE122.out | refine qg ?_ GE123.out) | exact HB.out)) hb); clear BK122; clear BK123; clear HB; have BK122 := n0_; have BK123 := n1_; have HB := n2_; clear n0_ n1_ n2_; (try clear hb); (try clear hb2); (try clear hk); (try clear hi)))
  go_ret2
  exact ⟨_, by first | rfl | (simp [errW_none, errW_some] <;> rfl) | (simp [*, errW_none, errW_some] <;> rfl), by first | exact Kd.R_nil _ _ _ _ _ | exact Kd.N_nil _ _ _ _ _ | exact Kd.V_nil _ _ _ _ _ | exact Kd.Q_nil _ _ _ _ _ | exact Kd.S_nil _ _ _ _ _, by repeat (first | (with_reducible first | exact HB.out | apply qa | apply qb | apply qc | refine qg ?_ GE122.out | refine qg ?_ GE123.out) | exact HB.out)⟩
/-! ### proof_Check: function 54 -/
def proof_Check.f (k : Nat) (a0 : ByteArray) (a1_0 : Int) (a1_1 : ByteArray) (l2_0 : List (List ByteArray)) (l2_1 : List (List ByteArray)) : Option (Bool × Int) := (proof_Steps.f k a1_0 a1_1 l2_0 l2_1).bind fun bt145 => (if bt145.2 = 0 then (if 0 ≤ (wrap64 ((bt145.1.length : Int) - 1)) then (if (wrap64 ((bt145.1.length : Int) - 1)) < (bt145.1.length : Int) then ((sha_Sum.f (rdOf ByteArray.empty bt145.1 (wrap64 ((bt145.1.length : Int) - 1)))).bind fun t150 => (some ((t150.toList == a0.toList), 0))) else (none)) else (none)) else (some (false, bt145.2)))
set_option maxHeartbeats 8000000 in
set_option maxRecDepth 100000 in
theorem proof_Check.calls (k : Nat) (a0 : ByteArray) (a1_0 : Int) (a1_1 : ByteArray) (A2_0 : Option Addr) (c2_0 : Nat) (l2_0 : List (List ByteArray)) (A2_1 : Option Addr) (c2_1 : Nat) (l2_1 : List (List ByteArray)) (r1 : Bool) (r2 : Int) (w : World) (hr2_0 : Kd.C (Kd.slice 9 Kd.string) w A2_0 l2_0.length l2_0) (hc2_0 : l2_0.length ≤ c2_0) (hr2_1 : Kd.C (Kd.slice 9 Kd.string) w A2_1 l2_1.length l2_1) (hc2_1 : l2_1.length ≤ c2_1) (h : proof_Check.f k a0 a1_0 a1_1 l2_0 l2_1 = some (r1, r2)) :
  Calls Tryd.prog 54 #[.string a0, .agg #[.int .u64 a1_0, .string a1_1], .agg #[.slice A2_0 l2_0.length c2_0, .slice A2_1 l2_1.length c2_1]] w fun e w' => e = .returned (.tuple #[.bool r1, .int .i64 r2]) ∧ Below w.heap.size w w' := by
 have hu46 := Tryd.underlying46
 have hu78 := Tryd.underlying78
 have HR2_0 := qf hr2_0
 have HC2_0 := qf hc2_0
 clear hr2_0 hc2_0
 have HR2_1 := qf hr2_1
 have HC2_1 := qf hc2_1
 clear hr2_1 hc2_1
 have HB := qf (Below.refl w.heap.size w)
 have H : ((proof_Steps.f k a1_0 a1_1 l2_0 l2_1).bind fun bt145 => (if bt145.2 = 0 then (if 0 ≤ (wrap64 ((bt145.1.length : Int) - 1)) then (if (wrap64 ((bt145.1.length : Int) - 1)) < (bt145.1.length : Int) then ((sha_Sum.f (rdOf ByteArray.empty bt145.1 (wrap64 ((bt145.1.length : Int) - 1)))).bind fun t150 => (some ((t150.toList == a0.toList), 0))) else (none)) else (none)) else (some (false, bt145.2)))) = some (r1, r2) := h
 clear h
 replace H := qi H
 obtain ⟨⟨t145, t148⟩, A40, H⟩ := H
 (try dsimp only at H)
 have A4 := qf A40
 clear A40
 by_cases c5 : t148 = 0
 ·rw [if_pos c5] at H
  have c5b0 : (t148 == 0) = true := beq_iff_eq.mpr c5
  have c5b1 : (t148 != 0) = false := bne_eq_false_iff_eq.mpr c5
  clear c5
  obtain ⟨ji6, hji6⟩ : ∃ j_ : Int, (wrap64 ((t145.length : Int) - 1)) = j_ := ⟨_, rfl⟩
  replace H : (if 0 ≤ (ji6) then (if (ji6) < (t145.length : Int) then ((sha_Sum.f (rdOf ByteArray.empty t145 (ji6))).bind fun t150 => (some ((t150.toList == a0.toList), 0))) else (none)) else (none)) = some (r1, r2) := by first | (rw [hji6] at H; exact H) | (simp only [hji6] at H ⊢; exact H)
  (try rw [hji6] at A4)
  have hji6w : (IntKind.i64.wrap ((t145.length : Int) - 1)) = ji6 := (i64_w _).trans hji6
  by_cases c7 : 0 ≤ (ji6)
  ·rw [if_pos c7] at H
   have c7b0 : decide (0 ≤ (ji6)) = true := qj c7
   clear c7
   by_cases c8 : (ji6) < (t145.length : Int)
   ·rw [if_pos c8] at H
    have c8b0 : decide ((ji6) < (t145.length : Int)) = true := qj c8
    clear c8
    replace H := qi H
    obtain ⟨t150, A90, H⟩ := H
    (try dsimp only at H)
    have A9 := qf A90
    clear A90
    simp only [Option.some.injEq, Prod.mk.injEq] at H
    obtain ⟨rfl, rfl⟩ := H
    go_enter Tryd.func54, Tryd.ntmps54
    go_wp2_with (first | ((with_reducible refine gate_dst (N := 4) rfl ?_); refine box_event ?hg (N := 4) ?hd (cs := #[.int .u64 a1_0, .string a1_1]) (t := 46) ?hr ?_; (case hd => rfl); (case hg => rfl); (case hr => first | (go_simp; done) | (go_simp; rfl)); intro gb143 hg w10 hbox hb; have n0_ := qf (below_step (by repeat (first | (with_reducible first | exact HB.out | apply qa | apply qb | apply qc) | exact HB.out)) hb); have n1_ := qf (hbox); have n2_ := qf ((by rw [hg]; exact (below_size (by repeat (first | (with_reducible first | exact HB.out | apply qa | apply qb | apply qc) | exact HB.out))) : w.heap.size ≤ gb143)); have n3_ := qf ((by rw [hg]; exact (below_size (by repeat (first | (with_reducible first | exact HB.out | apply qa | apply qb | apply qc) | exact HB.out))) : w.heap.size ≤ gb143)); clear HB; have HB := n0_; have BK143 := n1_; have GW143 := n2_; have GE143 := n3_; clear n0_ n1_ n2_ n3_; clear hb hbox hg) | ((with_reducible refine gate_dst (N := 5) rfl ?_); refine box_event ?hg (N := 5) ?hd (cs := #[.slice A2_0 l2_0.length c2_0, .slice A2_1 l2_1.length c2_1]) (t := 78) ?hr ?_; (case hd => rfl); (case hg => rfl); (case hr => first | (go_simp; done) | (go_simp; rfl)); intro gb144 hg w11 hbox hb; have n0_ := qf (blk_below (g := gb143) (o := .cells #[.int .u64 a1_0, .string a1_1] 46 (0, 0)) (by (with_reducible repeat (first | refine blk_drewN ?_ _ | refine blk_drew ?_ | refine qh ?_ _)); exact BK143.out) hb); have n1_ := qf (below_step (by repeat (first | (with_reducible first | exact HB.out | apply qa | apply qb | apply qc | refine qg ?_ GE143.out) | exact HB.out)) hb); have n2_ := qf (hbox); have n3_ := qf ((by rw [hg]; exact (below_size (by repeat (first | (with_reducible first | exact HB.out | apply qa | apply qb | apply qc | refine qg ?_ GE143.out) | exact HB.out))) : w.heap.size ≤ gb144)); have n4_ := qf ((by rw [hg]; exact (below_size (by repeat (first | (with_reducible first | exact HB.out | apply qa | apply qb | apply qc | refine qg ?_ GE143.out) | exact HB.out))) : w.heap.size ≤ gb144)); have n5_ := qf ((by rw [hg]; exact Nat.ne_of_lt (blk_lt (g := gb143) (o := .cells #[.int .u64 a1_0, .string a1_1] 46 (0, 0)) (by (with_reducible repeat (first | refine blk_drewN ?_ _ | refine blk_drew ?_ | refine qh ?_ _)); exact BK143.out)) : gb143 ≠ gb144)); have n6_ := qf ((by rw [hg]; exact Nat.ne_of_gt (blk_lt (g := gb143) (o := .cells #[.int .u64 a1_0, .string a1_1] 46 (0, 0)) (by (with_reducible repeat (first | refine blk_drewN ?_ _ | refine blk_drew ?_ | refine qh ?_ _)); exact BK143.out)) : gb144 ≠ gb143)); clear BK143; clear HB; have BK143 := n0_; have HB := n1_; have BK144 := n2_; have GW144 := n3_; have GE144 := n4_; have NB143_144 := n5_; have NB144_143 := n6_; clear n0_ n1_ n2_ n3_ n4_ n5_ n6_; clear hb hbox hg; have hnb12 := NB143_144.out; have hnc12 := NB144_143.out; have hcz13_0 : w11.cell? ⟨gb143, 0, none⟩ = some (.int .u64 a1_0) := (blk_cell BK143.out 0).trans rfl; have hcz13_1 : w11.cell? ⟨gb143, 1, none⟩ = some (.string a1_1) := (blk_cell BK143.out 1).trans rfl; have hfz13_0 := blk_frozen BK143.out 0; have hfz13_1 := blk_frozen BK143.out 1; have hcz14_0 : w11.cell? ⟨gb144, 0, none⟩ = some (.slice A2_0 l2_0.length c2_0) := (blk_cell BK144.out 0).trans rfl; have hcz14_1 : w11.cell? ⟨gb144, 1, none⟩ = some (.slice A2_1 l2_1.length c2_1) := (blk_cell BK144.out 1).trans rfl; have hfz14_0 := blk_frozen BK144.out 0; have hfz14_1 := blk_frozen BK144.out 1) | ((with_reducible refine gate_callee (f := 53) rfl ?_); refine goesL_ (some 13) rfl rfl Tryd.func53 (by kernel_rfl) rfl #[.agg #[.int .u64 a1_0, .string a1_1], .agg #[.slice A2_0 l2_0.length c2_0, .slice A2_1 l2_1.length c2_1]] rfl (by (try simp only [List.map_toArray, List.map_cons, List.map_nil]); first | done | rfl | (simp only [List.length_drop, qw]; rfl)) ?_; (with_reducible refine (proof_Steps.calls k a1_0 a1_1 _ _ l2_0 _ _ l2_1 t145 t148 _ ?side1 ?side2 ?side3 ?side4 A4.out).mono ?_); (case side1 => repeat (first | exact (Kd.C_below HR2_0.out HB.out) | (with_reducible refine Kd.C_alloc ?_ _) | (with_reducible refine Kd.C_drewN ?_ _) | (with_reducible refine Kd.C_drew ?_))); (case side2 => exact HC2_0.out); (case side3 => repeat (first | exact (Kd.C_below HR2_1.out HB.out) | (with_reducible refine Kd.C_alloc ?_ _) | (with_reducible refine Kd.C_drewN ?_ _) | (with_reducible refine Kd.C_drew ?_))); (case side4 => exact HC2_1.out); rintro e w15 ⟨v146, rfl, ho0, hb⟩; refine ⟨_, rfl, ?_⟩; have n0_ := qf (Kd.R_lower ho0 (below_size (by repeat (first | (with_reducible first | exact HB.out | apply qa | apply qb | apply qc | refine qg ?_ GE143.out | refine qg ?_ GE144.out) | exact HB.out)))); have n1_ := qf (blk_below (g := gb143) (o := .cells #[.int .u64 a1_0, .string a1_1] 46 (0, 0)) (by (with_reducible repeat (first | refine blk_drewN ?_ _ | refine blk_drew ?_ | refine qh ?_ _)); exact BK143.out) hb); have n2_ := qf (blk_below (g := gb144) (o := .cells #[.slice A2_0 l2_0.length c2_0, .slice A2_1 l2_1.length c2_1] 78 (0, 0)) (by (with_reducible repeat (first | refine blk_drewN ?_ _ | refine blk_drew ?_ | refine qh ?_ _)); exact BK144.out) hb); have n3_ := qf (below_step (by repeat (first | (with_reducible first | exact HB.out | apply qa | apply qb | apply qc | refine qg ?_ GE143.out | refine qg ?_ GE144.out) | exact HB.out)) hb); clear BK143; clear BK144; clear HB; have HO147 := n0_; have BK143 := n1_; have BK144 := n2_; have HB := n3_; clear n0_ n1_ n2_ n3_; (try clear hb); (try clear hb2); (try clear hk); (try clear hi); (try clear ho0); obtain ⟨Ao16, co16, eo16⟩ := Kd.R_slice HO147.out; subst eo16; have p149 : 0 ≤ ((ji6) : Int) := qe (by first | (with_reducible assumption) | assumption); have q149 : (ji6) < (t145.length : Int) := qe (by first | (with_reducible assumption) | assumption); obtain ⟨ad149, e149, hx149_0⟩ := Kd.at_string (Kd.R_reads' HO147.out).2.2 (ji6) p149 q149; cases e149; replace p149 := eq_true p149; replace q149 := eq_true q149) | ((with_reducible refine gate_callee (f := 85) rfl ?_); refine goesL_ (some 25) rfl rfl Tryd.func85 (by kernel_rfl) rfl #[.string (rdOf ByteArray.empty t145 (ji6))] rfl (by (try simp only [List.map_toArray, List.map_cons, List.map_nil]); first | done | (simp only [hji6]; rfl) | rfl | (simp only [List.length_drop, qw]; rfl)) ?_; (with_reducible refine (sha_Sum.calls (rdOf ByteArray.empty t145 (ji6)) t150 _ A9.out).mono ?_); rintro e w17 ⟨rfl, hb⟩; refine ⟨_, rfl, ?_⟩; have n0_ := qf (Kd.R_below (by (with_reducible repeat (first | apply Kd.R_alloc | apply Kd.R_drewN | apply Kd.R_drew)); exact HO147.out) hb); have n1_ := qf (blk_below (g := gb143) (o := .cells #[.int .u64 a1_0, .string a1_1] 46 (0, 0)) (by (with_reducible repeat (first | refine blk_drewN ?_ _ | refine blk_drew ?_ | refine qh ?_ _)); exact BK143.out) hb); have n2_ := qf (blk_below (g := gb144) (o := .cells #[.slice A2_0 l2_0.length c2_0, .slice A2_1 l2_1.length c2_1] 78 (0, 0)) (by (with_reducible repeat (first | refine blk_drewN ?_ _ | refine blk_drew ?_ | refine qh ?_ _)); exact BK144.out) hb); have n3_ := qf (below_step (by repeat (first | (with_reducible first | exact HB.out | apply qa | apply qb | apply qc | refine qg ?_ GE143.out | refine qg ?_ GE144.out) | exact HB.out)) hb); clear HO147; clear BK143; clear BK144; clear HB; have HO147 := n0_; have BK143 := n1_; have BK144 := n2_; have HB := n3_; clear n0_ n1_ n2_ n3_; (try clear hb); (try clear hb2); (try clear hk); (try clear hi)))
    go_ret2
    exact ⟨by first | rfl | (simp [errW_none, errW_some] <;> rfl) | (simp only [← hji6]; first | rfl | (simp [errW_none, errW_some] <;> rfl)) | (simp [*, errW_none, errW_some] <;> rfl), by repeat (first | (with_reducible first | exact HB.out | apply qa | apply qb | apply qc | refine qg ?_ GE143.out | refine qg ?_ GE144.out) | exact HB.out)⟩
   ·rw [if_neg c8] at H
    exact absurd H (by simp)
  ·rw [if_neg c7] at H
   exact absurd H (by simp)
 ·rw [if_neg c5] at H
  have c5b0 : (t148 == 0) = false := beq_eq_false_iff_ne.mpr c5
  have c5b1 : (t148 != 0) = true := bne_iff_ne.mpr c5
  simp only [Option.some.injEq, Prod.mk.injEq] at H
  obtain ⟨rfl, rfl⟩ := H
  go_enter Tryd.func54, Tryd.ntmps54
  go_wp2_with (first | ((with_reducible refine gate_dst (N := 4) rfl ?_); refine box_event ?hg (N := 4) ?hd (cs := #[.int .u64 a1_0, .string a1_1]) (t := 46) ?hr ?_; (case hd => rfl); (case hg => rfl); (case hr => first | (go_simp; done) | (go_simp; rfl)); intro gb143 hg w18 hbox hb; have n0_ := qf (below_step (by repeat (first | (with_reducible first | exact HB.out | apply qa | apply qb | apply qc) | exact HB.out)) hb); have n1_ := qf (hbox); have n2_ := qf ((by rw [hg]; exact (below_size (by repeat (first | (with_reducible first | exact HB.out | apply qa | apply qb | apply qc) | exact HB.out))) : w.heap.size ≤ gb143)); have n3_ := qf ((by rw [hg]; exact (below_size (by repeat (first | (with_reducible first | exact HB.out | apply qa | apply qb | apply qc) | exact HB.out))) : w.heap.size ≤ gb143)); clear HB; have HB := n0_; have BK143 := n1_; have GW143 := n2_; have GE143 := n3_; clear n0_ n1_ n2_ n3_; clear hb hbox hg) | ((with_reducible refine gate_dst (N := 5) rfl ?_); refine box_event ?hg (N := 5) ?hd (cs := #[.slice A2_0 l2_0.length c2_0, .slice A2_1 l2_1.length c2_1]) (t := 78) ?hr ?_; (case hd => rfl); (case hg => rfl); (case hr => first | (go_simp; done) | (go_simp; rfl)); intro gb144 hg w19 hbox hb; have n0_ := qf (blk_below (g := gb143) (o := .cells #[.int .u64 a1_0, .string a1_1] 46 (0, 0)) (by (with_reducible repeat (first | refine blk_drewN ?_ _ | refine blk_drew ?_ | refine qh ?_ _)); exact BK143.out) hb); have n1_ := qf (below_step (by repeat (first | (with_reducible first | exact HB.out | apply qa | apply qb | apply qc | refine qg ?_ GE143.out) | exact HB.out)) hb); have n2_ := qf (hbox); have n3_ := qf ((by rw [hg]; exact (below_size (by repeat (first | (with_reducible first | exact HB.out | apply qa | apply qb | apply qc | refine qg ?_ GE143.out) | exact HB.out))) : w.heap.size ≤ gb144)); have n4_ := qf ((by rw [hg]; exact (below_size (by repeat (first | (with_reducible first | exact HB.out | apply qa | apply qb | apply qc | refine qg ?_ GE143.out) | exact HB.out))) : w.heap.size ≤ gb144)); have n5_ := qf ((by rw [hg]; exact Nat.ne_of_lt (blk_lt (g := gb143) (o := .cells #[.int .u64 a1_0, .string a1_1] 46 (0, 0)) (by (with_reducible repeat (first | refine blk_drewN ?_ _ | refine blk_drew ?_ | refine qh ?_ _)); exact BK143.out)) : gb143 ≠ gb144)); have n6_ := qf ((by rw [hg]; exact Nat.ne_of_gt (blk_lt (g := gb143) (o := .cells #[.int .u64 a1_0, .string a1_1] 46 (0, 0)) (by (with_reducible repeat (first | refine blk_drewN ?_ _ | refine blk_drew ?_ | refine qh ?_ _)); exact BK143.out)) : gb144 ≠ gb143)); clear BK143; clear HB; have BK143 := n0_; have HB := n1_; have BK144 := n2_; have GW144 := n3_; have GE144 := n4_; have NB143_144 := n5_; have NB144_143 := n6_; clear n0_ n1_ n2_ n3_ n4_ n5_ n6_; clear hb hbox hg; have hnb20 := NB143_144.out; have hnc20 := NB144_143.out; have hcz21_0 : w19.cell? ⟨gb143, 0, none⟩ = some (.int .u64 a1_0) := (blk_cell BK143.out 0).trans rfl; have hcz21_1 : w19.cell? ⟨gb143, 1, none⟩ = some (.string a1_1) := (blk_cell BK143.out 1).trans rfl; have hfz21_0 := blk_frozen BK143.out 0; have hfz21_1 := blk_frozen BK143.out 1; have hcz22_0 : w19.cell? ⟨gb144, 0, none⟩ = some (.slice A2_0 l2_0.length c2_0) := (blk_cell BK144.out 0).trans rfl; have hcz22_1 : w19.cell? ⟨gb144, 1, none⟩ = some (.slice A2_1 l2_1.length c2_1) := (blk_cell BK144.out 1).trans rfl; have hfz22_0 := blk_frozen BK144.out 0; have hfz22_1 := blk_frozen BK144.out 1) | ((with_reducible refine gate_callee (f := 53) rfl ?_); refine goesL_ (some 13) rfl rfl Tryd.func53 (by kernel_rfl) rfl #[.agg #[.int .u64 a1_0, .string a1_1], .agg #[.slice A2_0 l2_0.length c2_0, .slice A2_1 l2_1.length c2_1]] rfl (by (try simp only [List.map_toArray, List.map_cons, List.map_nil]); first | done | rfl | (simp only [List.length_drop, qw]; rfl)) ?_; (with_reducible refine (proof_Steps.calls k a1_0 a1_1 _ _ l2_0 _ _ l2_1 t145 t148 _ ?side1 ?side2 ?side3 ?side4 A4.out).mono ?_); (case side1 => repeat (first | exact (Kd.C_below HR2_0.out HB.out) | (with_reducible refine Kd.C_alloc ?_ _) | (with_reducible refine Kd.C_drewN ?_ _) | (with_reducible refine Kd.C_drew ?_))); (case side2 => exact HC2_0.out); (case side3 => repeat (first | exact (Kd.C_below HR2_1.out HB.out) | (with_reducible refine Kd.C_alloc ?_ _) | (with_reducible refine Kd.C_drewN ?_ _) | (with_reducible refine Kd.C_drew ?_))); (case side4 => exact HC2_1.out); rintro e w23 ⟨v146, rfl, ho0, hb⟩; refine ⟨_, rfl, ?_⟩; have n0_ := qf (Kd.R_lower ho0 (below_size (by repeat (first | (with_reducible first | exact HB.out | apply qa | apply qb | apply qc | refine qg ?_ GE143.out | refine qg ?_ GE144.out) | exact HB.out)))); have n1_ := qf (blk_below (g := gb143) (o := .cells #[.int .u64 a1_0, .string a1_1] 46 (0, 0)) (by (with_reducible repeat (first | refine blk_drewN ?_ _ | refine blk_drew ?_ | refine qh ?_ _)); exact BK143.out) hb); have n2_ := qf (blk_below (g := gb144) (o := .cells #[.slice A2_0 l2_0.length c2_0, .slice A2_1 l2_1.length c2_1] 78 (0, 0)) (by (with_reducible repeat (first | refine blk_drewN ?_ _ | refine blk_drew ?_ | refine qh ?_ _)); exact BK144.out) hb); have n3_ := qf (below_step (by repeat (first | (with_reducible first | exact HB.out | apply qa | apply qb | apply qc | refine qg ?_ GE143.out | refine qg ?_ GE144.out) | exact HB.out)) hb); clear BK143; clear BK144; clear HB; have HO147 := n0_; have BK143 := n1_; have BK144 := n2_; have HB := n3_; clear n0_ n1_ n2_ n3_; (try clear hb); (try clear hb2); (try clear hk); (try clear hi); (try clear ho0)))
  go_ret2
  exact ⟨by first | rfl | (simp [errW_none, errW_some] <;> rfl) | (simp [*, errW_none, errW_some] <;> rfl), by repeat (first | (with_reducible first | exact HB.out | apply qa | apply qb | apply qc | refine qg ?_ GE143.out | refine qg ?_ GE144.out) | exact HB.out)⟩
/-! ### saltusref18_rows: function 87 -/
def saltusref18_rows.l0 : Nat → List (List ByteArray) → List (List ByteArray) → Int → Int → Option (Bool)
 | 0, _, _, _, _ => none
 | k + 1, x0, x5, x6, x7 => if x7 < x6 then (if 0 ≤ x7 then (if x7 < (x5.length : Int) then (if ((rd_L1 x5 x7).length : Int) > 64 then (some false) else ((saltusref17_Labels.f (rd_L1 x5 x7)).bind fun t152 => (if t152 = true then (saltusref18_rows.l0 k x0 x5 x6 (wrap64 (x7 + 1))) else (some false)))) else (none)) else (none)) else (some ((x0.length : Int) == 8))
def saltusref18_rows.f (k : Nat) (l0 : List (List ByteArray)) : Option (Bool) := saltusref18_rows.l0 k l0 l0 (l0.length : Int) 0
set_option maxHeartbeats 8000000 in
set_option maxRecDepth 100000 in
theorem saltusref18_rows.calls (k : Nat) (A0 : Option Addr) (c0 : Nat) (l0 : List (List ByteArray)) (r : Bool) (w : World) (hr0 : Kd.C (Kd.slice 9 Kd.string) w A0 l0.length l0) (hc0 : l0.length ≤ c0) (h : saltusref18_rows.f k l0 = some r) :
  Calls Tryd.prog 87 #[.slice A0 l0.length c0] w fun e w' => e = .returned (.bool r) ∧ Drawn0 w w' := by
 have HR0 := qf hr0
 have HC0 := qf hc0
 clear hr0 hc0
 have H : (saltusref18_rows.l0 k l0 l0 (l0.length : Int) 0) = some r := h
 clear h
 have H' := qf H
 clear H
 go_enter Tryd.func87, Tryd.ntmps87
 go_wp2
 go_loopg [7] k (fun kq v7 w' => ∃ (x7_1 : Int), v7 = .int .i64 x7_1 ∧ Aside0 (saltusref18_rows.l0 kq l0 l0 (l0.length : Int) x7_1 = some r) ∧ Aside0 (kq ≤ k) ∧ Drawn0 w w')
 case atStart => exact ⟨(0), (by first | rfl | (simp; done) | (simp [*]; done)), H', ⟨Nat.le_refl _⟩, by repeat (first | exact Drawn0.refl _ | apply Drawn0.step)⟩
 case round =>
  clear H'
  obtain ⟨x7_1, rfl, HA, HK1, ⟨m1, rfl⟩⟩ := hrel
  cases gk with
  | zero => exact absurd HA.out (by simp [saltusref18_rows.l0])
  | succ k1 =>
   have H := HA.out
   clear HA
   simp only [saltusref18_rows.l0] at H
   by_cases c2 : x7_1 < (l0.length : Int)
   ·rw [if_pos c2] at H
    have c2b0 : decide (x7_1 < (l0.length : Int)) = true := qj c2
    clear c2
    by_cases c3 : 0 ≤ x7_1
    ·rw [if_pos c3] at H
     have c3b0 : decide (0 ≤ x7_1) = true := qj c3
     clear c3
     by_cases c4 : x7_1 < (l0.length : Int)
     ·rw [if_pos c4] at H
      have c4b0 : decide (x7_1 < (l0.length : Int)) = true := qj c4
      clear c4
      by_cases c5 : ((rd_L1 l0 x7_1).length : Int) > 64
      ·rw [if_pos c5] at H
       have c5b0 : decide (64 < ((rd_L1 l0 x7_1).length : Int)) = true := qj c5
       have c5b1 : decide (64 < (rd_L1 l0 x7_1).length) = true := qj (by omega)
       clear c5
       obtain rfl := Option.some.inj H
       have p151 : 0 ≤ (x7_1 : Int) := qe (by first | (with_reducible assumption) | assumption)
       have q151 : x7_1 < (l0.length : Int) := qe (by first | (with_reducible assumption) | assumption)
       obtain ⟨ad151, A151_0, c151_0, e151, hx151_0, hl151_0, hi151_0⟩ := at_L1 HR0.out x7_1 p151 q151
       cases e151
       have HR151_0 := qf hi151_0
       have HC151_0 := qf hl151_0
       clear hi151_0 hl151_0
       replace p151 := eq_true p151
       replace q151 := eq_true q151
       go_wp2
       go_ret
       exact ⟨by first | rfl | (simp; done) | (simp [*]; done), by repeat (first | exact Drawn0.refl _ | apply Drawn0.step)⟩
      ·rw [if_neg c5] at H
       have c5b0 : decide (64 < ((rd_L1 l0 x7_1).length : Int)) = false := decide_eq_false c5
       have c5b1 : decide (64 < (rd_L1 l0 x7_1).length) = false := decide_eq_false (by omega)
       clear c5
       replace H := qi H
       obtain ⟨t152, A60, H⟩ := H
       (try dsimp only at H)
       have A6 := qf A60
       clear A60
       by_cases c7 : t152 = true
       ·subst c7
        have H1 : (saltusref18_rows.l0 k1 l0 l0 (l0.length : Int) (wrap64 (x7_1 + 1))) = some r := by rw [if_pos rfl] at H; exact H
        clear H
        have H := H1
        clear H1
        have H' := qf H
        clear H
        have p151 : 0 ≤ (x7_1 : Int) := qe (by first | (with_reducible assumption) | assumption)
        have q151 : x7_1 < (l0.length : Int) := qe (by first | (with_reducible assumption) | assumption)
        obtain ⟨ad151, A151_0, c151_0, e151, hx151_0, hl151_0, hi151_0⟩ := at_L1 HR0.out x7_1 p151 q151
        cases e151
        have HR151_0 := qf hi151_0
        have HC151_0 := qf hl151_0
        clear hi151_0 hl151_0
        replace p151 := eq_true p151
        replace q151 := eq_true q151
        go_wp2_with (first | (go_at_call 44; (with_reducible refine (saltusref17_Labels.calls _ _ (rd_L1 l0 x7_1) true _ ?side1 ?side2 A6.out).mono ?_); (case side1 => repeat (first | exact HR151_0.out | (with_reducible refine Kd.C_alloc ?_ _) | (with_reducible refine Kd.C_drewN ?_ _) | (with_reducible refine Kd.C_drew ?_))); (case side2 => exact HC151_0.out); rintro e w' ⟨rfl, ⟨nd, rfl⟩⟩))
        go_roundg k1
        case measure => have := HK1.out; omega
        case rel => exact ⟨(wrap64 (x7_1 + 1)), (by first | rfl | (simp; done) | (simp [*]; done)), H', ⟨by have := HK1.out; omega⟩, by repeat (first | exact Drawn0.refl _ | apply Drawn0.step)⟩
       ·replace c7 := Bool.eq_false_iff.mpr c7
        subst c7
        have H1 : (some false) = some r := by rw [if_neg (show ¬ (false = true) by decide)] at H; exact H
        clear H
        have H := H1
        clear H1
        obtain rfl := Option.some.inj H
        have p151 : 0 ≤ (x7_1 : Int) := qe (by first | (with_reducible assumption) | assumption)
        have q151 : x7_1 < (l0.length : Int) := qe (by first | (with_reducible assumption) | assumption)
        obtain ⟨ad151, A151_0, c151_0, e151, hx151_0, hl151_0, hi151_0⟩ := at_L1 HR0.out x7_1 p151 q151
        cases e151
        have HR151_0 := qf hi151_0
        have HC151_0 := qf hl151_0
        clear hi151_0 hl151_0
        replace p151 := eq_true p151
        replace q151 := eq_true q151
        go_wp2_with (first | (go_at_call 44; (with_reducible refine (saltusref17_Labels.calls _ _ (rd_L1 l0 x7_1) false _ ?side1 ?side2 A6.out).mono ?_); (case side1 => repeat (first | exact HR151_0.out | (with_reducible refine Kd.C_alloc ?_ _) | (with_reducible refine Kd.C_drewN ?_ _) | (with_reducible refine Kd.C_drew ?_))); (case side2 => exact HC151_0.out); rintro e w' ⟨rfl, ⟨nd, rfl⟩⟩))
        go_ret
        exact ⟨by first | rfl | (simp; done) | (simp [*]; done), by repeat (first | exact Drawn0.refl _ | apply Drawn0.step)⟩
     ·rw [if_neg c4] at H
      exact absurd H (by simp)
    ·rw [if_neg c3] at H
     exact absurd H (by simp)
   ·rw [if_neg c2] at H
    have c2b0 : decide (x7_1 < (l0.length : Int)) = false := decide_eq_false c2
    clear c2
    obtain rfl := Option.some.inj H
    go_wp2
    go_ret
    exact ⟨by first | rfl | (simp; done) | (simp [*]; done), by repeat (first | exact Drawn0.refl _ | apply Drawn0.step)⟩
/-! ### saltusref18_Why: function 55 -/
def saltusref18_Why.f (k : Nat) (a0_0 : Int) (a0_1 : ByteArray) (l1_0 : List (List ByteArray)) (l1_1 : List (List ByteArray)) : Option (Int) := if (a0_1.size : Int) > 64 then (some 4) else ((saltusref18_rows.f k l1_0).bind fun t155 => (if t155 = true then ((saltusref18_rows.f k l1_1).bind fun t156 => (if t156 = true then (some 0) else (some 1))) else (some 1)))
set_option maxHeartbeats 8000000 in
set_option maxRecDepth 100000 in
theorem saltusref18_Why.calls (k : Nat) (a0_0 : Int) (a0_1 : ByteArray) (A1_0 : Option Addr) (c1_0 : Nat) (l1_0 : List (List ByteArray)) (A1_1 : Option Addr) (c1_1 : Nat) (l1_1 : List (List ByteArray)) (r : Int) (w : World) (hr1_0 : Kd.C (Kd.slice 9 Kd.string) w A1_0 l1_0.length l1_0) (hc1_0 : l1_0.length ≤ c1_0) (hr1_1 : Kd.C (Kd.slice 9 Kd.string) w A1_1 l1_1.length l1_1) (hc1_1 : l1_1.length ≤ c1_1) (h : saltusref18_Why.f k a0_0 a0_1 l1_0 l1_1 = some r) :
  Calls Tryd.prog 55 #[.agg #[.int .u64 a0_0, .string a0_1], .agg #[.slice A1_0 l1_0.length c1_0, .slice A1_1 l1_1.length c1_1]] w fun e w' => e = .returned (.int .i64 r) ∧ Below w.heap.size w w' := by
 have hu46 := Tryd.underlying46
 have hu78 := Tryd.underlying78
 have HR1_0 := qf hr1_0
 have HC1_0 := qf hc1_0
 clear hr1_0 hc1_0
 have HR1_1 := qf hr1_1
 have HC1_1 := qf hc1_1
 clear hr1_1 hc1_1
 have HB := qf (Below.refl w.heap.size w)
 have H : (if (a0_1.size : Int) > 64 then (some 4) else ((saltusref18_rows.f k l1_0).bind fun t155 => (if t155 = true then ((saltusref18_rows.f k l1_1).bind fun t156 => (if t156 = true then (some 0) else (some 1))) else (some 1)))) = some r := h
 clear h
 by_cases c3 : (a0_1.size : Int) > 64
 ·rw [if_pos c3] at H
  have c3b0 : decide (64 < (a0_1.size : Int)) = true := qj c3
  have c3b1 : decide (64 < a0_1.size) = true := qj (by omega)
  clear c3
  obtain rfl := Option.some.inj H
  go_enter Tryd.func55, Tryd.ntmps55
  go_wp2_with (first | ((with_reducible refine gate_dst (N := 2) rfl ?_); refine box_event ?hg (N := 2) ?hd (cs := #[.int .u64 a0_0, .string a0_1]) (t := 46) ?hr ?_; (case hd => rfl); (case hg => rfl); (case hr => first | (go_simp; done) | (go_simp; rfl)); intro gb153 hg w4 hbox hb; have n0_ := qf (below_step (by repeat (first | (with_reducible first | exact HB.out | apply qa | apply qb | apply qc) | exact HB.out)) hb); have n1_ := qf (hbox); have n2_ := qf ((by rw [hg]; exact (below_size (by repeat (first | (with_reducible first | exact HB.out | apply qa | apply qb | apply qc) | exact HB.out))) : w.heap.size ≤ gb153)); have n3_ := qf ((by rw [hg]; exact (below_size (by repeat (first | (with_reducible first | exact HB.out | apply qa | apply qb | apply qc) | exact HB.out))) : w.heap.size ≤ gb153)); clear HB; have HB := n0_; have BK153 := n1_; have GW153 := n2_; have GE153 := n3_; clear n0_ n1_ n2_ n3_; clear hb hbox hg) | ((with_reducible refine gate_dst (N := 3) rfl ?_); refine box_event ?hg (N := 3) ?hd (cs := #[.slice A1_0 l1_0.length c1_0, .slice A1_1 l1_1.length c1_1]) (t := 78) ?hr ?_; (case hd => rfl); (case hg => rfl); (case hr => first | (go_simp; done) | (go_simp; rfl)); intro gb154 hg w5 hbox hb; have n0_ := qf (blk_below (g := gb153) (o := .cells #[.int .u64 a0_0, .string a0_1] 46 (0, 0)) (by (with_reducible repeat (first | refine blk_drewN ?_ _ | refine blk_drew ?_ | refine qh ?_ _)); exact BK153.out) hb); have n1_ := qf (below_step (by repeat (first | (with_reducible first | exact HB.out | apply qa | apply qb | apply qc | refine qg ?_ GE153.out) | exact HB.out)) hb); have n2_ := qf (hbox); have n3_ := qf ((by rw [hg]; exact (below_size (by repeat (first | (with_reducible first | exact HB.out | apply qa | apply qb | apply qc | refine qg ?_ GE153.out) | exact HB.out))) : w.heap.size ≤ gb154)); have n4_ := qf ((by rw [hg]; exact (below_size (by repeat (first | (with_reducible first | exact HB.out | apply qa | apply qb | apply qc | refine qg ?_ GE153.out) | exact HB.out))) : w.heap.size ≤ gb154)); have n5_ := qf ((by rw [hg]; exact Nat.ne_of_lt (blk_lt (g := gb153) (o := .cells #[.int .u64 a0_0, .string a0_1] 46 (0, 0)) (by (with_reducible repeat (first | refine blk_drewN ?_ _ | refine blk_drew ?_ | refine qh ?_ _)); exact BK153.out)) : gb153 ≠ gb154)); have n6_ := qf ((by rw [hg]; exact Nat.ne_of_gt (blk_lt (g := gb153) (o := .cells #[.int .u64 a0_0, .string a0_1] 46 (0, 0)) (by (with_reducible repeat (first | refine blk_drewN ?_ _ | refine blk_drew ?_ | refine qh ?_ _)); exact BK153.out)) : gb154 ≠ gb153)); clear BK153; clear HB; have BK153 := n0_; have HB := n1_; have BK154 := n2_; have GW154 := n3_; have GE154 := n4_; have NB153_154 := n5_; have NB154_153 := n6_; clear n0_ n1_ n2_ n3_ n4_ n5_ n6_; clear hb hbox hg; have hnb6 := NB153_154.out; have hnc6 := NB154_153.out; have hcz7_0 : w5.cell? ⟨gb153, 0, none⟩ = some (.int .u64 a0_0) := (blk_cell BK153.out 0).trans rfl; have hcz7_1 : w5.cell? ⟨gb153, 1, none⟩ = some (.string a0_1) := (blk_cell BK153.out 1).trans rfl; have hfz7_0 := blk_frozen BK153.out 0; have hfz7_1 := blk_frozen BK153.out 1))
  go_ret
  exact ⟨by first | rfl | (simp [errW_none, errW_some] <;> rfl) | (simp [*, errW_none, errW_some] <;> rfl), by repeat (first | (with_reducible first | exact HB.out | apply qa | apply qb | apply qc | refine qg ?_ GE153.out | refine qg ?_ GE154.out) | exact HB.out)⟩
 ·rw [if_neg c3] at H
  have c3b0 : decide (64 < (a0_1.size : Int)) = false := decide_eq_false c3
  have c3b1 : decide (64 < a0_1.size) = false := decide_eq_false (by omega)
  clear c3
  replace H := qi H
  obtain ⟨t155, A80, H⟩ := H
  (try dsimp only at H)
  have A8 := qf A80
  clear A80
  by_cases c9 : t155 = true
  ·subst c9
   have H1 : ((saltusref18_rows.f k l1_1).bind fun t156 => (if t156 = true then (some 0) else (some 1))) = some r := by rw [if_pos rfl] at H; exact H
   clear H
   have H := H1
   clear H1
   replace H := qi H
   obtain ⟨t156, A100, H⟩ := H
   (try dsimp only at H)
   have A10 := qf A100
   clear A100
   by_cases c11 : t156 = true
   ·subst c11
    have H1 : (some 0) = some r := by rw [if_pos rfl] at H; exact H
    clear H
    have H := H1
    clear H1
    obtain rfl := Option.some.inj H
    go_enter Tryd.func55, Tryd.ntmps55
    go_wp2_with (first | ((with_reducible refine gate_dst (N := 2) rfl ?_); refine box_event ?hg (N := 2) ?hd (cs := #[.int .u64 a0_0, .string a0_1]) (t := 46) ?hr ?_; (case hd => rfl); (case hg => rfl); (case hr => first | (go_simp; done) | (go_simp; rfl)); intro gb153 hg w12 hbox hb; have n0_ := qf (below_step (by repeat (first | (with_reducible first | exact HB.out | apply qa | apply qb | apply qc) | exact HB.out)) hb); have n1_ := qf (hbox); have n2_ := qf ((by rw [hg]; exact (below_size (by repeat (first | (with_reducible first | exact HB.out | apply qa | apply qb | apply qc) | exact HB.out))) : w.heap.size ≤ gb153)); have n3_ := qf ((by rw [hg]; exact (below_size (by repeat (first | (with_reducible first | exact HB.out | apply qa | apply qb | apply qc) | exact HB.out))) : w.heap.size ≤ gb153)); clear HB; have HB := n0_; have BK153 := n1_; have GW153 := n2_; have GE153 := n3_; clear n0_ n1_ n2_ n3_; clear hb hbox hg) | ((with_reducible refine gate_dst (N := 3) rfl ?_); refine box_event ?hg (N := 3) ?hd (cs := #[.slice A1_0 l1_0.length c1_0, .slice A1_1 l1_1.length c1_1]) (t := 78) ?hr ?_; (case hd => rfl); (case hg => rfl); (case hr => first | (go_simp; done) | (go_simp; rfl)); intro gb154 hg w13 hbox hb; have n0_ := qf (blk_below (g := gb153) (o := .cells #[.int .u64 a0_0, .string a0_1] 46 (0, 0)) (by (with_reducible repeat (first | refine blk_drewN ?_ _ | refine blk_drew ?_ | refine qh ?_ _)); exact BK153.out) hb); have n1_ := qf (below_step (by repeat (first | (with_reducible first | exact HB.out | apply qa | apply qb | apply qc | refine qg ?_ GE153.out) | exact HB.out)) hb); have n2_ := qf (hbox); have n3_ := qf ((by rw [hg]; exact (below_size (by repeat (first | (with_reducible first | exact HB.out | apply qa | apply qb | apply qc | refine qg ?_ GE153.out) | exact HB.out))) : w.heap.size ≤ gb154)); have n4_ := qf ((by rw [hg]; exact (below_size (by repeat (first | (with_reducible first | exact HB.out | apply qa | apply qb | apply qc | refine qg ?_ GE153.out) | exact HB.out))) : w.heap.size ≤ gb154)); have n5_ := qf ((by rw [hg]; exact Nat.ne_of_lt (blk_lt (g := gb153) (o := .cells #[.int .u64 a0_0, .string a0_1] 46 (0, 0)) (by (with_reducible repeat (first | refine blk_drewN ?_ _ | refine blk_drew ?_ | refine qh ?_ _)); exact BK153.out)) : gb153 ≠ gb154)); have n6_ := qf ((by rw [hg]; exact Nat.ne_of_gt (blk_lt (g := gb153) (o := .cells #[.int .u64 a0_0, .string a0_1] 46 (0, 0)) (by (with_reducible repeat (first | refine blk_drewN ?_ _ | refine blk_drew ?_ | refine qh ?_ _)); exact BK153.out)) : gb154 ≠ gb153)); clear BK153; clear HB; have BK153 := n0_; have HB := n1_; have BK154 := n2_; have GW154 := n3_; have GE154 := n4_; have NB153_154 := n5_; have NB154_153 := n6_; clear n0_ n1_ n2_ n3_ n4_ n5_ n6_; clear hb hbox hg; have hnb14 := NB153_154.out; have hnc14 := NB154_153.out; have hcz15_0 : w13.cell? ⟨gb153, 0, none⟩ = some (.int .u64 a0_0) := (blk_cell BK153.out 0).trans rfl; have hcz15_1 : w13.cell? ⟨gb153, 1, none⟩ = some (.string a0_1) := (blk_cell BK153.out 1).trans rfl; have hfz15_0 := blk_frozen BK153.out 0; have hfz15_1 := blk_frozen BK153.out 1; have hcz16_0 : w13.cell? ⟨gb154, 0, none⟩ = some (.slice A1_0 l1_0.length c1_0) := (blk_cell BK154.out 0).trans rfl; have hcz16_1 : w13.cell? ⟨gb154, 1, none⟩ = some (.slice A1_1 l1_1.length c1_1) := (blk_cell BK154.out 1).trans rfl; have hfz16_0 := blk_frozen BK154.out 0; have hfz16_1 := blk_frozen BK154.out 1) | ((with_reducible refine gate_callee (f := 87) rfl ?_); refine goesL_ (some 11) rfl rfl Tryd.func87 (by kernel_rfl) rfl #[.slice A1_0 l1_0.length c1_0] rfl (by (try simp only [List.map_toArray, List.map_cons, List.map_nil]); first | done | rfl | (simp only [List.length_drop, qw]; rfl)) ?_; (with_reducible refine (saltusref18_rows.calls k _ _ l1_0 true _ ?side1 ?side2 A8.out).mono ?_); (case side1 => repeat (first | exact (Kd.C_below HR1_0.out HB.out) | (with_reducible refine Kd.C_alloc ?_ _) | (with_reducible refine Kd.C_drewN ?_ _) | (with_reducible refine Kd.C_drew ?_))); (case side2 => exact HC1_0.out); rintro e w' ⟨rfl, ⟨nd, rfl⟩⟩; refine ⟨_, rfl, ?_⟩) | (go_at_call 87; (with_reducible refine (saltusref18_rows.calls k _ _ l1_1 true _ ?side1 ?side2 A10.out).mono ?_); (case side1 => repeat (first | exact (Kd.C_below HR1_1.out (by repeat (first | (with_reducible first | exact HB.out | apply qa | apply qb | apply qc | refine qg ?_ GE153.out | refine qg ?_ GE154.out) | exact HB.out))) | (with_reducible refine Kd.C_alloc ?_ _) | (with_reducible refine Kd.C_drewN ?_ _) | (with_reducible refine Kd.C_drew ?_))); (case side2 => exact HC1_1.out); rintro e w' ⟨rfl, ⟨nd, rfl⟩⟩))
    go_ret
    exact ⟨by first | rfl | (simp [errW_none, errW_some] <;> rfl) | (simp [*, errW_none, errW_some] <;> rfl), by repeat (first | (with_reducible first | exact HB.out | apply qa | apply qb | apply qc | refine qg ?_ GE153.out | refine qg ?_ GE154.out) | exact HB.out)⟩
   ·replace c11 := Bool.eq_false_iff.mpr c11
    subst c11
    have H1 : (some 1) = some r := by rw [if_neg (show ¬ (false = true) by decide)] at H; exact H
    clear H
    have H := H1
    clear H1
    obtain rfl := Option.some.inj H
    go_enter Tryd.func55, Tryd.ntmps55
    go_wp2_with (first | ((with_reducible refine gate_dst (N := 2) rfl ?_); refine box_event ?hg (N := 2) ?hd (cs := #[.int .u64 a0_0, .string a0_1]) (t := 46) ?hr ?_; (case hd => rfl); (case hg => rfl); (case hr => first | (go_simp; done) | (go_simp; rfl)); intro gb153 hg w17 hbox hb; have n0_ := qf (below_step (by repeat (first | (with_reducible first | exact HB.out | apply qa | apply qb | apply qc) | exact HB.out)) hb); have n1_ := qf (hbox); have n2_ := qf ((by rw [hg]; exact (below_size (by repeat (first | (with_reducible first | exact HB.out | apply qa | apply qb | apply qc) | exact HB.out))) : w.heap.size ≤ gb153)); have n3_ := qf ((by rw [hg]; exact (below_size (by repeat (first | (with_reducible first | exact HB.out | apply qa | apply qb | apply qc) | exact HB.out))) : w.heap.size ≤ gb153)); clear HB; have HB := n0_; have BK153 := n1_; have GW153 := n2_; have GE153 := n3_; clear n0_ n1_ n2_ n3_; clear hb hbox hg) | ((with_reducible refine gate_dst (N := 3) rfl ?_); refine box_event ?hg (N := 3) ?hd (cs := #[.slice A1_0 l1_0.length c1_0, .slice A1_1 l1_1.length c1_1]) (t := 78) ?hr ?_; (case hd => rfl); (case hg => rfl); (case hr => first | (go_simp; done) | (go_simp; rfl)); intro gb154 hg w18 hbox hb; have n0_ := qf (blk_below (g := gb153) (o := .cells #[.int .u64 a0_0, .string a0_1] 46 (0, 0)) (by (with_reducible repeat (first | refine blk_drewN ?_ _ | refine blk_drew ?_ | refine qh ?_ _)); exact BK153.out) hb); have n1_ := qf (below_step (by repeat (first | (with_reducible first | exact HB.out | apply qa | apply qb | apply qc | refine qg ?_ GE153.out) | exact HB.out)) hb); have n2_ := qf (hbox); have n3_ := qf ((by rw [hg]; exact (below_size (by repeat (first | (with_reducible first | exact HB.out | apply qa | apply qb | apply qc | refine qg ?_ GE153.out) | exact HB.out))) : w.heap.size ≤ gb154)); have n4_ := qf ((by rw [hg]; exact (below_size (by repeat (first | (with_reducible first | exact HB.out | apply qa | apply qb | apply qc | refine qg ?_ GE153.out) | exact HB.out))) : w.heap.size ≤ gb154)); have n5_ := qf ((by rw [hg]; exact Nat.ne_of_lt (blk_lt (g := gb153) (o := .cells #[.int .u64 a0_0, .string a0_1] 46 (0, 0)) (by (with_reducible repeat (first | refine blk_drewN ?_ _ | refine blk_drew ?_ | refine qh ?_ _)); exact BK153.out)) : gb153 ≠ gb154)); have n6_ := qf ((by rw [hg]; exact Nat.ne_of_gt (blk_lt (g := gb153) (o := .cells #[.int .u64 a0_0, .string a0_1] 46 (0, 0)) (by (with_reducible repeat (first | refine blk_drewN ?_ _ | refine blk_drew ?_ | refine qh ?_ _)); exact BK153.out)) : gb154 ≠ gb153)); clear BK153; clear HB; have BK153 := n0_; have HB := n1_; have BK154 := n2_; have GW154 := n3_; have GE154 := n4_; have NB153_154 := n5_; have NB154_153 := n6_; clear n0_ n1_ n2_ n3_ n4_ n5_ n6_; clear hb hbox hg; have hnb19 := NB153_154.out; have hnc19 := NB154_153.out; have hcz20_0 : w18.cell? ⟨gb153, 0, none⟩ = some (.int .u64 a0_0) := (blk_cell BK153.out 0).trans rfl; have hcz20_1 : w18.cell? ⟨gb153, 1, none⟩ = some (.string a0_1) := (blk_cell BK153.out 1).trans rfl; have hfz20_0 := blk_frozen BK153.out 0; have hfz20_1 := blk_frozen BK153.out 1; have hcz21_0 : w18.cell? ⟨gb154, 0, none⟩ = some (.slice A1_0 l1_0.length c1_0) := (blk_cell BK154.out 0).trans rfl; have hcz21_1 : w18.cell? ⟨gb154, 1, none⟩ = some (.slice A1_1 l1_1.length c1_1) := (blk_cell BK154.out 1).trans rfl; have hfz21_0 := blk_frozen BK154.out 0; have hfz21_1 := blk_frozen BK154.out 1) | ((with_reducible refine gate_callee (f := 87) rfl ?_); refine goesL_ (some 11) rfl rfl Tryd.func87 (by kernel_rfl) rfl #[.slice A1_0 l1_0.length c1_0] rfl (by (try simp only [List.map_toArray, List.map_cons, List.map_nil]); first | done | rfl | (simp only [List.length_drop, qw]; rfl)) ?_; (with_reducible refine (saltusref18_rows.calls k _ _ l1_0 true _ ?side1 ?side2 A8.out).mono ?_); (case side1 => repeat (first | exact (Kd.C_below HR1_0.out HB.out) | (with_reducible refine Kd.C_alloc ?_ _) | (with_reducible refine Kd.C_drewN ?_ _) | (with_reducible refine Kd.C_drew ?_))); (case side2 => exact HC1_0.out); rintro e w' ⟨rfl, ⟨nd, rfl⟩⟩; refine ⟨_, rfl, ?_⟩) | (go_at_call 87; (with_reducible refine (saltusref18_rows.calls k _ _ l1_1 false _ ?side1 ?side2 A10.out).mono ?_); (case side1 => repeat (first | exact (Kd.C_below HR1_1.out (by repeat (first | (with_reducible first | exact HB.out | apply qa | apply qb | apply qc | refine qg ?_ GE153.out | refine qg ?_ GE154.out) | exact HB.out))) | (with_reducible refine Kd.C_alloc ?_ _) | (with_reducible refine Kd.C_drewN ?_ _) | (with_reducible refine Kd.C_drew ?_))); (case side2 => exact HC1_1.out); rintro e w' ⟨rfl, ⟨nd, rfl⟩⟩))
    go_ret
    exact ⟨by first | rfl | (simp [errW_none, errW_some] <;> rfl) | (simp [*, errW_none, errW_some] <;> rfl), by repeat (first | (with_reducible first | exact HB.out | apply qa | apply qb | apply qc | refine qg ?_ GE153.out | refine qg ?_ GE154.out) | exact HB.out)⟩
  ·replace c9 := Bool.eq_false_iff.mpr c9
   subst c9
   have H1 : (some 1) = some r := by rw [if_neg (show ¬ (false = true) by decide)] at H; exact H
   clear H
   have H := H1
   clear H1
   obtain rfl := Option.some.inj H
   go_enter Tryd.func55, Tryd.ntmps55
   go_wp2_with (first | ((with_reducible refine gate_dst (N := 2) rfl ?_); refine box_event ?hg (N := 2) ?hd (cs := #[.int .u64 a0_0, .string a0_1]) (t := 46) ?hr ?_; (case hd => rfl); (case hg => rfl); (case hr => first | (go_simp; done) | (go_simp; rfl)); intro gb153 hg w22 hbox hb; have n0_ := qf (below_step (by repeat (first | (with_reducible first | exact HB.out | apply qa | apply qb | apply qc) | exact HB.out)) hb); have n1_ := qf (hbox); have n2_ := qf ((by rw [hg]; exact (below_size (by repeat (first | (with_reducible first | exact HB.out | apply qa | apply qb | apply qc) | exact HB.out))) : w.heap.size ≤ gb153)); have n3_ := qf ((by rw [hg]; exact (below_size (by repeat (first | (with_reducible first | exact HB.out | apply qa | apply qb | apply qc) | exact HB.out))) : w.heap.size ≤ gb153)); clear HB; have HB := n0_; have BK153 := n1_; have GW153 := n2_; have GE153 := n3_; clear n0_ n1_ n2_ n3_; clear hb hbox hg) | ((with_reducible refine gate_dst (N := 3) rfl ?_); refine box_event ?hg (N := 3) ?hd (cs := #[.slice A1_0 l1_0.length c1_0, .slice A1_1 l1_1.length c1_1]) (t := 78) ?hr ?_; (case hd => rfl); (case hg => rfl); (case hr => first | (go_simp; done) | (go_simp; rfl)); intro gb154 hg w23 hbox hb; have n0_ := qf (blk_below (g := gb153) (o := .cells #[.int .u64 a0_0, .string a0_1] 46 (0, 0)) (by (with_reducible repeat (first | refine blk_drewN ?_ _ | refine blk_drew ?_ | refine qh ?_ _)); exact BK153.out) hb); have n1_ := qf (below_step (by repeat (first | (with_reducible first | exact HB.out | apply qa | apply qb | apply qc | refine qg ?_ GE153.out) | exact HB.out)) hb); have n2_ := qf (hbox); have n3_ := qf ((by rw [hg]; exact (below_size (by repeat (first | (with_reducible first | exact HB.out | apply qa | apply qb | apply qc | refine qg ?_ GE153.out) | exact HB.out))) : w.heap.size ≤ gb154)); have n4_ := qf ((by rw [hg]; exact (below_size (by repeat (first | (with_reducible first | exact HB.out | apply qa | apply qb | apply qc | refine qg ?_ GE153.out) | exact HB.out))) : w.heap.size ≤ gb154)); have n5_ := qf ((by rw [hg]; exact Nat.ne_of_lt (blk_lt (g := gb153) (o := .cells #[.int .u64 a0_0, .string a0_1] 46 (0, 0)) (by (with_reducible repeat (first | refine blk_drewN ?_ _ | refine blk_drew ?_ | refine qh ?_ _)); exact BK153.out)) : gb153 ≠ gb154)); have n6_ := qf ((by rw [hg]; exact Nat.ne_of_gt (blk_lt (g := gb153) (o := .cells #[.int .u64 a0_0, .string a0_1] 46 (0, 0)) (by (with_reducible repeat (first | refine blk_drewN ?_ _ | refine blk_drew ?_ | refine qh ?_ _)); exact BK153.out)) : gb154 ≠ gb153)); clear BK153; clear HB; have BK153 := n0_; have HB := n1_; have BK154 := n2_; have GW154 := n3_; have GE154 := n4_; have NB153_154 := n5_; have NB154_153 := n6_; clear n0_ n1_ n2_ n3_ n4_ n5_ n6_; clear hb hbox hg; have hnb24 := NB153_154.out; have hnc24 := NB154_153.out; have hcz25_0 : w23.cell? ⟨gb153, 0, none⟩ = some (.int .u64 a0_0) := (blk_cell BK153.out 0).trans rfl; have hcz25_1 : w23.cell? ⟨gb153, 1, none⟩ = some (.string a0_1) := (blk_cell BK153.out 1).trans rfl; have hfz25_0 := blk_frozen BK153.out 0; have hfz25_1 := blk_frozen BK153.out 1; have hcz26_0 : w23.cell? ⟨gb154, 0, none⟩ = some (.slice A1_0 l1_0.length c1_0) := (blk_cell BK154.out 0).trans rfl; have hcz26_1 : w23.cell? ⟨gb154, 1, none⟩ = some (.slice A1_1 l1_1.length c1_1) := (blk_cell BK154.out 1).trans rfl; have hfz26_0 := blk_frozen BK154.out 0; have hfz26_1 := blk_frozen BK154.out 1) | ((with_reducible refine gate_callee (f := 87) rfl ?_); refine goesL_ (some 11) rfl rfl Tryd.func87 (by kernel_rfl) rfl #[.slice A1_0 l1_0.length c1_0] rfl (by (try simp only [List.map_toArray, List.map_cons, List.map_nil]); first | done | rfl | (simp only [List.length_drop, qw]; rfl)) ?_; (with_reducible refine (saltusref18_rows.calls k _ _ l1_0 false _ ?side1 ?side2 A8.out).mono ?_); (case side1 => repeat (first | exact (Kd.C_below HR1_0.out HB.out) | (with_reducible refine Kd.C_alloc ?_ _) | (with_reducible refine Kd.C_drewN ?_ _) | (with_reducible refine Kd.C_drew ?_))); (case side2 => exact HC1_0.out); rintro e w' ⟨rfl, ⟨nd, rfl⟩⟩; refine ⟨_, rfl, ?_⟩))
   go_ret
   exact ⟨by first | rfl | (simp [errW_none, errW_some] <;> rfl) | (simp [*, errW_none, errW_some] <;> rfl), by repeat (first | (with_reducible first | exact HB.out | apply qa | apply qb | apply qc | refine qg ?_ GE153.out | refine qg ?_ GE154.out) | exact HB.out)⟩
end Go.Proofs.YtolbhliepkcihaaDoor.QPA
end
section
namespace Go.Proofs.YtolbhliepkcihaaDoor.QPA
open Go.RowKit Kinds YtolbhliepkcihaaDoorW.PrintWords YtolbhliepkcihaaDoorW.PrintLast YtolbhliepkcihaaDoorW.PrintMore
attribute [local go_sem] max2_int min2_int max_two min_two max_three min_three max_four min_four   -- for this text's walks alone
set_option linter.unusedVariables false
set_option linter.unusedSimpArgs false
/-! ### saltusref17_Item: function 76 -/
def saltusref17_Item.f (a0_0 : Int) (a0_1 : ByteArray) : Option (ByteArray) := (some (([0] : List Int) : List Int)).bind fun y158 => ((saltusref02_Low.f a0_0 8).bind fun t161 => (if (strOfNums y158).size + t161.size ≤ 9223372036854775807 then ((saltusref02_One.f true 0 a0_1).bind fun t162 => (if ((strOfNums y158) ++ t161).size + t162.size ≤ 9223372036854775807 then (some (((strOfNums y158) ++ t161) ++ t162)) else (none))) else (none)))
def saltusref17_Item.T1 : Bool × List (List Nat × List Nat) := (true, [([], []), ([0], [0]), ([], []), ([2], [2]), ([3], [3]), ([1, 4], [1, 4]), ([], []), ([6], [6]), ([7], [7]), ([8, 4], [8]), ([5, 9], [5, 9]), ([10, 9, 0, 1, 2, 3, 4, 5, 6, 7, 8, 9, 10], [10])])
def saltusref17_Item.B1 : List Nat := [0, 1, 0, 4, 12, 31, 0, 64, 192, 476, 1023, 2047]
theorem saltusref17_Item.tab1 : rtab .any (opsOf Tryd.f76 1) = saltusref17_Item.T1 := by kernel_rfl
theorem saltusref17_Item.bits1 : waitsOk saltusref17_Item.T1.2 saltusref17_Item.B1 = true := by kernel_rfl
set_option maxHeartbeats 8000000 in
set_option maxRecDepth 100000 in
theorem saltusref17_Item.calls (a0_0 : Int) (a0_1 : ByteArray) (r : ByteArray) (w : World) (h : saltusref17_Item.f a0_0 a0_1 = some r) :
  Calls Tryd.prog 76 #[.agg #[.int .u64 a0_0, .string a0_1]] w fun e w' => e = .returned (.string r) ∧ Below w.heap.size w w' := by
 have hu46 := Tryd.underlying46
 have hu115 := Tryd.underlying115
 have HB := qf (Below.refl w.heap.size w)
 have H : ((some (([0] : List Int) : List Int)).bind fun y158 => ((saltusref02_Low.f a0_0 8).bind fun t161 => (if (strOfNums y158).size + t161.size ≤ 9223372036854775807 then ((saltusref02_One.f true 0 a0_1).bind fun t162 => (if ((strOfNums y158) ++ t161).size + t162.size ≤ 9223372036854775807 then (some (((strOfNums y158) ++ t161) ++ t162)) else (none))) else (none)))) = some r := h
 clear h
 obtain ⟨y158, hy158⟩ : ∃ y_ : List Int, y_ = (([0] : List Int)) := ⟨_, rfl⟩
 replace H : ((saltusref02_Low.f a0_0 8).bind fun t161 => (if (strOfNums y158).size + t161.size ≤ 9223372036854775807 then ((saltusref02_One.f true 0 a0_1).bind fun t162 => (if ((strOfNums y158) ++ t161).size + t162.size ≤ 9223372036854775807 then (some (((strOfNums y158) ++ t161) ++ t162)) else (none))) else (none))) = some r := by first | (rw [hy158]; with_reducible exact H) | (have H2_ := (qv _ _).symm.trans H; rw [hy158]; with_reducible exact H2_) | (have H2_ := (qv _ _).symm.trans H; with_reducible exact H2_) | with_reducible exact H | (rw [hy158]; exact H) | exact H
 have Ny158 := qf hy158
 clear hy158
 replace H := qi H
 obtain ⟨t161, A20, H⟩ := H
 (try dsimp only at H)
 have A2 := qf A20
 clear A20
 by_cases c3 : (strOfNums y158).size + t161.size ≤ 9223372036854775807
 ·rw [if_pos c3] at H
  have c3b0 := eq_true c3
  have c3b1 : decide ((strOfNums y158).size + t161.size ≤ 9223372036854775807) = true := qj c3
  try have c3b2 : (9223372036854775807 < (strOfNums y158).size + t161.size) = False := eq_false (Nat.not_lt.2 c3)
  replace H := qi H
  obtain ⟨t162, A40, H⟩ := H
  (try dsimp only at H)
  have A4 := qf A40
  clear A40
  by_cases c5 : ((strOfNums y158) ++ t161).size + t162.size ≤ 9223372036854775807
  ·rw [if_pos c5] at H
   have c5b0 := eq_true c5
   have c5b1 : decide (((strOfNums y158) ++ t161).size + t162.size ≤ 9223372036854775807) = true := qj c5
   try have c5b2 : (9223372036854775807 < ((strOfNums y158) ++ t161).size + t162.size) = False := eq_false (Nat.not_lt.2 c5)
   have c5m : (9223372036854775807 < ((strOfNums y158).size + t161.size) + t162.size) = False := by have h_ := c5; simp only [ByteArray.size_extract, ByteArray.size_append, Nat.min_self] at h_; exact eq_false (by omega)
   obtain rfl := Option.some.inj H
   go_enter Tryd.func76, Tryd.ntmps76
   try go_wp2_with (((with_reducible refine gate_dst (N := 1) rfl ?_); refine box_event ?hg (N := 1) ?hd (cs := #[.int .u64 a0_0, .string a0_1]) (t := 46) ?hr ?_; (case hd => rfl); (case hg => rfl); (case hr => first | (go_simp; done) | (go_simp; rfl)); intro gb157 hg w6 hbox hb; have n0_ := qf (below_step (by repeat (first | (with_reducible first | exact HB.out | apply qa | apply qb | apply qc) | exact HB.out)) hb); have n1_ := qf (hbox); have n2_ := qf ((by rw [hg]; exact (below_size (by repeat (first | (with_reducible first | exact HB.out | apply qa | apply qb | apply qc) | exact HB.out))) : w.heap.size ≤ gb157)); have n3_ := qf ((by rw [hg]; exact (below_size (by repeat (first | (with_reducible first | exact HB.out | apply qa | apply qb | apply qc) | exact HB.out))) : w.heap.size ≤ gb157)); clear HB; have HB := n0_; have BK157 := n1_; have GW157 := n2_; have GE157 := n3_; clear n0_ n1_ n2_ n3_; clear hb hbox hg))
   have n0_ := qf (blk_drew BK157.out)
   have n1_ := qf (qc HB.out)
   clear BK157
   clear HB
   have BK157 := n0_
   have HB := n1_
   clear n0_ n1_
   refine start_ (n := 12) (S := fun w' => w'.cell? ⟨gb157, 0, none⟩ = some (.int .u64 a0_0) ∧ w'.cell? ⟨gb157, 1, none⟩ = some (.string a0_1)) (ds := []) (bm 12 0) (by kernel_rfl) rfl rfl ⟨(blk_cell BK157.out 0).trans rfl, (blk_cell BK157.out 1).trans rfl⟩ (fun hHeld => ?_); refine with_tabW saltusref17_Item.tab1 saltusref17_Item.bits1 (fun HT_ HW_ => ?_)
   generalize w6.drew = w7 at BK157 HB hHeld ⊢
   refine pure_ (i := 2) (N := some 5) (v := ?_) (a' := ?_) (bm 12 4) rfl rfl (any_of HT_.out (by kernel_rfl)) (fun _ _ _ h => h) (Or.inl ⟨by rfl, ?_⟩) ?_ ?_
   rotate_left
   ·intro w'
    go_simp
    with_reducible rfl
   rotate_left
   ·simp only [Act.put, qs, qt, qu, i64_w, i32_w]
    rfl
   refine pure_ (i := 6) (N := some 9) (v := ?_) (a' := ?_) (bm 12 68) rfl rfl (any_of HT_.out (by kernel_rfl)) (fun _ _ _ h => h) (Or.inl ⟨by rfl, ?_⟩) ?_ ?_
   rotate_left
   ·intro w'
    go_simp
    with_reducible rfl
   rotate_left
   ·simp only [Act.put, qs, qt, qu, i64_w, i32_w]
    rfl
   refine take_ (i := 3) (N := some 6) (v := ?_) (a' := ?_) (bm 12 76) rfl rfl (take_ofW HT_.out HW_.out (by kernel_rfl)) (fun _ _ _ h => h) (Or.inl ⟨by rfl, ?_⟩) hHeld ?_ ?_
   rotate_left
   ·rintro w' ⟨s0, s1⟩
    go_simp
    with_reducible rfl
   rotate_left
   ·simp only [Act.put, qs, qt, qu, i64_w, i32_w]
    rfl
   refine take_ (i := 7) (N := some 10) (v := ?_) (a' := ?_) (bm 12 204) rfl rfl (take_ofW HT_.out HW_.out (by kernel_rfl)) (fun _ _ _ h => h) (Or.inl ⟨by rfl, ?_⟩) hHeld ?_ ?_
   rotate_left
   ·rintro w' ⟨s0, s1⟩
    go_simp
    with_reducible rfl
   rotate_left
   ·simp only [Act.put, qs, qt, qu, i64_w, i32_w]
    rfl
   refine pure_ (i := 8) (N := some 11) (v := ?_) (a' := ?_) (bm 12 460) rfl rfl (any_of HT_.out (by kernel_rfl)) (fun _ _ _ h => h) (Or.inl ⟨by rfl, ?_⟩) ?_ ?_
   rotate_left
   ·intro w'
    go_simp
    with_reducible rfl
   rotate_left
   ·simp only [Act.put, qs, qt, qu, i64_w, i32_w]
    rfl
   refine join_ (σ := Value) 2 (bm 12 1023) (fun s_ => [(3, s_), (4, .string (strOfNums y158)), (7, .string t161), (12, .string t162), (8, .string ((strOfNums y158) ++ t161))]) (fun s_ w' => (w'.cell? ⟨gb157, 0, none⟩ = some (.int .u64 a0_0) ∧ w'.cell? ⟨gb157, 1, none⟩ = some (.string a0_1)) ∧ (Kd.R (Kd.int .u8) 5 w' w.heap.size (fun _ => True) s_ y158) ∧ (w'.heap[gb157]? = some (.cells #[.int .u64 a0_0, .string a0_1] 46 (0, 0))) ∧ (Below w.heap.size w w')) ?_ ?_
   rotate_left
   ·intro hJ0_1_4_9
    refine join_ (σ := Value) 3 (bm 12 511) (fun s_ => [(3, s_), (4, .string (strOfNums y158)), (7, .string t161), (8, .string ((strOfNums y158) ++ t161))]) (fun s_ w' => (w'.cell? ⟨gb157, 0, none⟩ = some (.int .u64 a0_0) ∧ w'.cell? ⟨gb157, 1, none⟩ = some (.string a0_1)) ∧ (Kd.R (Kd.int .u8) 5 w' w.heap.size (fun _ => True) s_ y158) ∧ (w'.heap[gb157]? = some (.cells #[.int .u64 a0_0, .string a0_1] 46 (0, 0))) ∧ (Below w.heap.size w w')) ?_ ?_
    rotate_left
    ·intro hJ0_1_4
     refine join_ (σ := Value) 4 (bm 12 989) (fun s_ => [(3, s_), (7, .string t161), (12, .string t162)]) (fun s_ w' => (w'.cell? ⟨gb157, 0, none⟩ = some (.int .u64 a0_0) ∧ w'.cell? ⟨gb157, 1, none⟩ = some (.string a0_1)) ∧ (Kd.R (Kd.int .u8) 5 w' w.heap.size (fun _ => True) s_ y158) ∧ (w'.heap[gb157]? = some (.cells #[.int .u64 a0_0, .string a0_1] 46 (0, 0))) ∧ (Below w.heap.size w w')) ?_ ?_
     rotate_left
     ·intro hJ0_4_9
      refine join_ (σ := Value) 5 (bm 12 463) (fun s_ => [(3, s_), (4, .string (strOfNums y158))]) (fun s_ w' => (w'.cell? ⟨gb157, 0, none⟩ = some (.int .u64 a0_0) ∧ w'.cell? ⟨gb157, 1, none⟩ = some (.string a0_1)) ∧ (Kd.R (Kd.int .u8) 5 w' w.heap.size (fun _ => True) s_ y158) ∧ (w'.heap[gb157]? = some (.cells #[.int .u64 a0_0, .string a0_1] 46 (0, 0))) ∧ (Below w.heap.size w w')) ?_ ?_
      rotate_left
      ·intro hJ0_1
       refine join_ (σ := Value) 5 (bm 12 477) (fun s_ => [(3, s_), (7, .string t161)]) (fun s_ w' => (w'.cell? ⟨gb157, 0, none⟩ = some (.int .u64 a0_0) ∧ w'.cell? ⟨gb157, 1, none⟩ = some (.string a0_1)) ∧ (Kd.R (Kd.int .u8) 5 w' w.heap.size (fun _ => True) s_ y158) ∧ (w'.heap[gb157]? = some (.cells #[.int .u64 a0_0, .string a0_1] 46 (0, 0))) ∧ (Below w.heap.size w w')) ?_ ?_
       rotate_left
       ·intro hJ0_4
        refine join_ (σ := Unit) 5 (bm 12 988) (fun s_ => [(7, .string t161), (12, .string t162)]) (fun s_ w' => (w'.cell? ⟨gb157, 0, none⟩ = some (.int .u64 a0_0) ∧ w'.cell? ⟨gb157, 1, none⟩ = some (.string a0_1)) ∧ (w'.heap[gb157]? = some (.cells #[.int .u64 a0_0, .string a0_1] 46 (0, 0))) ∧ (Below w.heap.size w w')) ?_ ?_
        rotate_left
        ·intro hJ4_9
         refine join_ (σ := Value) 6 (bm 12 461) (fun s_ => [(3, s_)]) (fun s_ w' => (w'.cell? ⟨gb157, 0, none⟩ = some (.int .u64 a0_0) ∧ w'.cell? ⟨gb157, 1, none⟩ = some (.string a0_1)) ∧ (Kd.R (Kd.int .u8) 5 w' w.heap.size (fun _ => True) s_ y158) ∧ (w'.heap[gb157]? = some (.cells #[.int .u64 a0_0, .string a0_1] 46 (0, 0))) ∧ (Below w.heap.size w w')) ?_ ?_
         rotate_left
         ·intro hJ0
          refine join_ (σ := Unit) 6 (bm 12 476) (fun s_ => [(7, .string t161)]) (fun s_ w' => (w'.cell? ⟨gb157, 0, none⟩ = some (.int .u64 a0_0) ∧ w'.cell? ⟨gb157, 1, none⟩ = some (.string a0_1)) ∧ (w'.heap[gb157]? = some (.cells #[.int .u64 a0_0, .string a0_1] 46 (0, 0))) ∧ (Below w.heap.size w w')) ?_ ?_
          rotate_left
          ·intro hJ4
           refine two_ (i := 0) (j := 4) (Ni := some 3) (Nj := some 7) (bm 12 461) (bm 12 476) rfl rfl rfl rfl (two_of HT_.out (by kernel_rfl)) (by decide) (by decide) (fun K hK => ?_) (fun K hK => ?_)
           ·skip
            refine Kd.R_lit_step (Kd.int .u8) _ 5 ?hg (N := 3) ?hd (xs := ([0] : List Int)) (inner := [.int .u8 0]) (ok := fun _ => True) (okp := fun _ => True) ?hr ?hp (fun _ hk => hk) trivial (Below.refl _ _) (Nat.le_refl _) (by simp) ?_; (case hd => rfl); (case hg => rfl); (case hr => first | (go_simp; done) | (go_simp; rfl)); (case hp => exact (Reps.one (show Kd.M (Kd.int .u8) _ _ _ 0 [.int .u8 0] from rfl) (Reps.none _ _)))
            intro v159 w8 ho9 hb hg_ hnew_
            clear hg_ hnew_
            (first | rw [← Ny158.out] at ho9 | (simp only [Int.reduceToNat] at ho9; rw [← Ny158.out] at ho9))
            have n0_ := qf (Kd.R_lower ho9 (below_size (by repeat (first | (with_reducible first | exact HB.out | apply qa | apply qb | apply qc | refine qg ?_ GE157.out) | exact HB.out))))
            have n1_ := qf (blk_below (g := gb157) (o := .cells #[.int .u64 a0_0, .string a0_1] 46 (0, 0)) (by (with_reducible repeat (first | refine blk_drewN ?_ _ | refine blk_drew ?_ | refine qh ?_ _)); exact BK157.out) hb)
            have n2_ := qf (below_step (by repeat (first | (with_reducible first | exact HB.out | apply qa | apply qb | apply qc | refine qg ?_ GE157.out) | exact HB.out)) hb)
            clear BK157
            clear HB
            have HO160 := n0_
            have BK157 := n1_
            have HB := n2_
            clear n0_ n1_ n2_
            clear hb ho9
            refine hK.out _ _ ⟨(blk_cell BK157.out 0).trans rfl, (blk_cell BK157.out 1).trans rfl⟩ (fun hHeld => ?_)
            clear hK K
            refine norm_ (a' := ?_) ?_ ?_
            rotate_left
            ·show Act.put _ (some 3) _ = _
             simp only [Act.put, qs, qt, qu, i64_w, i32_w]
             rfl
            exact norm_ (by first | (simp only [putAll, Act.put, qs, qt, qu]; done) | (simp only [putAll, Act.put, qs, qt, qu]; rfl)) (hJ0 (v159) _ ⟨hHeld, (by (with_reducible repeat (first | apply Kd.R_alloc | apply Kd.R_drewN | apply Kd.R_drew)); exact HO160.out), (by (with_reducible repeat (first | refine blk_drewN ?_ _ | refine blk_drew ?_ | refine qh ?_ _)); exact BK157.out), (by repeat (first | (with_reducible first | exact HB.out | apply qa | apply qb | apply qc | refine qg ?_ GE157.out) | exact HB.out))⟩)
           ·skip
            refine goes_ Tryd.func64 (by kernel_rfl) rfl #[.int .u64 a0_0, .int .i64 8] (by rfl) rfl rfl (by (try simp only [List.map_toArray, List.map_cons, List.map_nil]); first | done | rfl | (simp only [List.length_drop, qw]; rfl)) ?_
            with_reducible refine (saltusref02_Low.calls a0_0 8 t161 _ A2.out).mono ?_
            rintro e w8 ⟨rfl, hb⟩
            refine ⟨_, rfl, ?_⟩
            have n0_ := qf (blk_below (g := gb157) (o := .cells #[.int .u64 a0_0, .string a0_1] 46 (0, 0)) (by (with_reducible repeat (first | refine blk_drewN ?_ _ | refine blk_drew ?_ | refine qh ?_ _)); exact BK157.out) hb)
            have n1_ := qf (below_step (by repeat (first | (with_reducible first | exact HB.out | apply qa | apply qb | apply qc | refine qg ?_ GE157.out) | exact HB.out)) hb)
            clear BK157
            clear HB
            have BK157 := n0_
            have HB := n1_
            clear n0_ n1_
            (try clear hb)
            (try clear hb2)
            (try clear hk)
            (try clear hi)
            refine hK.out _ _ ⟨(blk_cell BK157.out 0).trans rfl, (blk_cell BK157.out 1).trans rfl⟩ (fun hHeld => ?_)
            clear hK K
            refine norm_ (a' := ?_) ?_ ?_
            rotate_left
            ·show Act.put _ (some 7) _ = _
             simp only [Act.put, qs, qt, qu, i64_w, i32_w]
             rfl
            exact norm_ (by first | (simp only [putAll, Act.put, qs, qt, qu]; done) | (simp only [putAll, Act.put, qs, qt, qu]; rfl)) (hJ4 () _ ⟨hHeld, (by (with_reducible repeat (first | refine blk_drewN ?_ _ | refine blk_drew ?_ | refine qh ?_ _)); exact BK157.out), (by repeat (first | (with_reducible first | exact HB.out | apply qa | apply qb | apply qc | refine qg ?_ GE157.out) | exact HB.out))⟩)
          ·skip
           rintro _ w9 ⟨hS_, h0_, h1_⟩
           have n0_ : Aside0 (w9.heap[gb157]? = some (.cells #[.int .u64 a0_0, .string a0_1] 46 (0, 0))) := ⟨h0_⟩
           have n1_ : Aside0 (Below w.heap.size w w9) := ⟨h1_⟩
           clear BK157
           clear HB
           clear h0_ h1_
           have BK157 := n0_
           have HB := n1_
           clear n0_ n1_
           have hHeld : w9.cell? ⟨gb157, 0, none⟩ = some (.int .u64 a0_0) ∧ w9.cell? ⟨gb157, 1, none⟩ = some (.string a0_1) := hS_
           refine norm_ (a' := ?_) ?_ ?_
           rotate_left
           ·simp only [putAll, Act.put, qs, qt, qu]
            rfl
           refine two_ (i := 0) (j := 9) (Ni := some 3) (Nj := some 12) (bm 12 477) (bm 12 988) rfl rfl rfl rfl (two_of HT_.out (by kernel_rfl)) (by decide) (by decide) (fun K hK => ?_) (fun K hK => ?_)
           ·skip
            refine Kd.R_lit_step (Kd.int .u8) _ 5 ?hg (N := 3) ?hd (xs := ([0] : List Int)) (inner := [.int .u8 0]) (ok := fun _ => True) (okp := fun _ => True) ?hr ?hp (fun _ hk => hk) trivial (Below.refl _ _) (Nat.le_refl _) (by simp) ?_; (case hd => rfl); (case hg => rfl); (case hr => first | (go_simp; done) | (go_simp; rfl)); (case hp => exact (Reps.one (show Kd.M (Kd.int .u8) _ _ _ 0 [.int .u8 0] from rfl) (Reps.none _ _)))
            intro v159 w10 ho11 hb hg_ hnew_
            clear hg_ hnew_
            (first | rw [← Ny158.out] at ho11 | (simp only [Int.reduceToNat] at ho11; rw [← Ny158.out] at ho11))
            have n0_ := qf (Kd.R_lower ho11 (below_size (by repeat (first | (with_reducible first | exact HB.out | apply qa | apply qb | apply qc | refine qg ?_ GE157.out) | exact HB.out))))
            have n1_ := qf (blk_below (g := gb157) (o := .cells #[.int .u64 a0_0, .string a0_1] 46 (0, 0)) (by (with_reducible repeat (first | refine blk_drewN ?_ _ | refine blk_drew ?_ | refine qh ?_ _)); exact BK157.out) hb)
            have n2_ := qf (below_step (by repeat (first | (with_reducible first | exact HB.out | apply qa | apply qb | apply qc | refine qg ?_ GE157.out) | exact HB.out)) hb)
            clear BK157
            clear HB
            have HO160 := n0_
            have BK157 := n1_
            have HB := n2_
            clear n0_ n1_ n2_
            clear hb ho11
            refine hK.out _ _ ⟨(blk_cell BK157.out 0).trans rfl, (blk_cell BK157.out 1).trans rfl⟩ (fun hHeld => ?_)
            clear hK K
            refine norm_ (a' := ?_) ?_ ?_
            rotate_left
            ·show Act.put _ (some 3) _ = _
             simp only [Act.put, qs, qt, qu, i64_w, i32_w]
             rfl
            exact norm_ (by first | (simp only [putAll, Act.put, qs, qt, qu]; done) | (simp only [putAll, Act.put, qs, qt, qu]; rfl)) (hJ0_4 (v159) _ ⟨hHeld, (by (with_reducible repeat (first | apply Kd.R_alloc | apply Kd.R_drewN | apply Kd.R_drew)); exact HO160.out), (by (with_reducible repeat (first | refine blk_drewN ?_ _ | refine blk_drew ?_ | refine qh ?_ _)); exact BK157.out), (by repeat (first | (with_reducible first | exact HB.out | apply qa | apply qb | apply qc | refine qg ?_ GE157.out) | exact HB.out))⟩)
           ·skip
            refine goes_ Tryd.func108 (by kernel_rfl) rfl #[.agg #[.bool true, .int .u64 0, .string a0_1]] (by rfl) rfl rfl (by (try simp only [List.map_toArray, List.map_cons, List.map_nil]); first | done | rfl | (simp only [List.length_drop, qw]; rfl)) ?_
            with_reducible refine (saltusref02_One.calls true 0 a0_1 t162 _ A4.out).mono ?_
            rintro e w10 ⟨rfl, hb⟩
            refine ⟨_, rfl, ?_⟩
            have n0_ := qf (blk_below (g := gb157) (o := .cells #[.int .u64 a0_0, .string a0_1] 46 (0, 0)) (by (with_reducible repeat (first | refine blk_drewN ?_ _ | refine blk_drew ?_ | refine qh ?_ _)); exact BK157.out) hb)
            have n1_ := qf (below_step (by repeat (first | (with_reducible first | exact HB.out | apply qa | apply qb | apply qc | refine qg ?_ GE157.out) | exact HB.out)) hb)
            clear BK157
            clear HB
            have BK157 := n0_
            have HB := n1_
            clear n0_ n1_
            (try clear hb)
            (try clear hb2)
            (try clear hk)
            (try clear hi)
            refine hK.out _ _ ⟨(blk_cell BK157.out 0).trans rfl, (blk_cell BK157.out 1).trans rfl⟩ (fun hHeld => ?_)
            clear hK K
            refine norm_ (a' := ?_) ?_ ?_
            rotate_left
            ·show Act.put _ (some 12) _ = _
             simp only [Act.put, qs, qt, qu, i64_w, i32_w]
             rfl
            exact norm_ (by first | (simp only [putAll, Act.put, qs, qt, qu]; done) | (simp only [putAll, Act.put, qs, qt, qu]; rfl)) (hJ4_9 () _ ⟨hHeld, (by (with_reducible repeat (first | refine blk_drewN ?_ _ | refine blk_drew ?_ | refine qh ?_ _)); exact BK157.out), (by repeat (first | (with_reducible first | exact HB.out | apply qa | apply qb | apply qc | refine qg ?_ GE157.out) | exact HB.out))⟩)
         ·skip
          rintro v159 w10 ⟨hS_, h0_, h1_, h2_⟩
          have n0_ : Aside0 (Kd.R (Kd.int .u8) 5 w10 w.heap.size (fun _ => True) v159 y158) := ⟨h0_⟩
          have n1_ : Aside0 (w10.heap[gb157]? = some (.cells #[.int .u64 a0_0, .string a0_1] 46 (0, 0))) := ⟨h1_⟩
          have n2_ : Aside0 (Below w.heap.size w w10) := ⟨h2_⟩
          clear BK157
          clear HB
          clear h0_ h1_ h2_
          have HO160 := n0_
          have BK157 := n1_
          have HB := n2_
          clear n0_ n1_ n2_
          have hHeld : w10.cell? ⟨gb157, 0, none⟩ = some (.int .u64 a0_0) ∧ w10.cell? ⟨gb157, 1, none⟩ = some (.string a0_1) := hS_
          refine norm_ (a' := ?_) ?_ ?_
          rotate_left
          ·simp only [putAll, Act.put, qs, qt, qu]
           rfl
          refine two_ (i := 1) (j := 4) (Ni := some 4) (Nj := some 7) (bm 12 463) (bm 12 477) rfl rfl rfl rfl (two_of HT_.out (by kernel_rfl)) (by decide) (by decide) (fun K hK => ?_) (fun K hK => ?_)
          ·skip
           have hcv11 := own_string (P := Tryd.prog) Tryd.underlying111 Tryd.underlying5 Tryd.underlying9 (Kd.own_of_R HO160.out)
           refine value_ (w1 := ?_) (v := ?_) (by rfl) rfl ?_ ?_
           rotate_left 2
           ·go_simp
            constructor
            ·rfl
            ·rfl
           clear hcv11
           refine hK.out _ _ ⟨(blk_cell BK157.out 0).trans rfl, (blk_cell BK157.out 1).trans rfl⟩ (fun hHeld => ?_)
           clear hK K
           refine norm_ (a' := ?_) ?_ ?_
           rotate_left
           ·show Act.put _ (some 4) _ = _
            simp only [Act.put, qs, qt, qu, i64_w, i32_w]
            rfl
           exact norm_ (by first | (simp only [putAll, Act.put, qs, qt, qu]; done) | (simp only [putAll, Act.put, qs, qt, qu]; rfl)) (hJ0_1 (v159) _ ⟨hHeld, (by (with_reducible repeat (first | apply Kd.R_alloc | apply Kd.R_drewN | apply Kd.R_drew)); exact HO160.out), (by (with_reducible repeat (first | refine blk_drewN ?_ _ | refine blk_drew ?_ | refine qh ?_ _)); exact BK157.out), (by repeat (first | (with_reducible first | exact HB.out | apply qa | apply qb | apply qc | refine qg ?_ GE157.out) | exact HB.out))⟩)
          ·skip
           refine goes_ Tryd.func64 (by kernel_rfl) rfl #[.int .u64 a0_0, .int .i64 8] (by rfl) rfl rfl (by (try simp only [List.map_toArray, List.map_cons, List.map_nil]); first | done | rfl | (simp only [List.length_drop, qw]; rfl)) ?_
           with_reducible refine (saltusref02_Low.calls a0_0 8 t161 _ A2.out).mono ?_
           rintro e w11 ⟨rfl, hb⟩
           refine ⟨_, rfl, ?_⟩
           have n0_ := qf (Kd.R_below (by (with_reducible repeat (first | apply Kd.R_alloc | apply Kd.R_drewN | apply Kd.R_drew)); exact HO160.out) hb)
           have n1_ := qf (blk_below (g := gb157) (o := .cells #[.int .u64 a0_0, .string a0_1] 46 (0, 0)) (by (with_reducible repeat (first | refine blk_drewN ?_ _ | refine blk_drew ?_ | refine qh ?_ _)); exact BK157.out) hb)
           have n2_ := qf (below_step (by repeat (first | (with_reducible first | exact HB.out | apply qa | apply qb | apply qc | refine qg ?_ GE157.out) | exact HB.out)) hb)
           clear HO160
           clear BK157
           clear HB
           have HO160 := n0_
           have BK157 := n1_
           have HB := n2_
           clear n0_ n1_ n2_
           (try clear hb)
           (try clear hb2)
           (try clear hk)
           (try clear hi)
           refine hK.out _ _ ⟨(blk_cell BK157.out 0).trans rfl, (blk_cell BK157.out 1).trans rfl⟩ (fun hHeld => ?_)
           clear hK K
           refine norm_ (a' := ?_) ?_ ?_
           rotate_left
           ·show Act.put _ (some 7) _ = _
            simp only [Act.put, qs, qt, qu, i64_w, i32_w]
            rfl
           exact norm_ (by first | (simp only [putAll, Act.put, qs, qt, qu]; done) | (simp only [putAll, Act.put, qs, qt, qu]; rfl)) (hJ0_4 (v159) _ ⟨hHeld, (by (with_reducible repeat (first | apply Kd.R_alloc | apply Kd.R_drewN | apply Kd.R_drew)); exact HO160.out), (by (with_reducible repeat (first | refine blk_drewN ?_ _ | refine blk_drew ?_ | refine qh ?_ _)); exact BK157.out), (by repeat (first | (with_reducible first | exact HB.out | apply qa | apply qb | apply qc | refine qg ?_ GE157.out) | exact HB.out))⟩)
        ·skip
         rintro _ w10 ⟨hS_, h0_, h1_⟩
         have n0_ : Aside0 (w10.heap[gb157]? = some (.cells #[.int .u64 a0_0, .string a0_1] 46 (0, 0))) := ⟨h0_⟩
         have n1_ : Aside0 (Below w.heap.size w w10) := ⟨h1_⟩
         clear BK157
         clear HB
         clear h0_ h1_
         have BK157 := n0_
         have HB := n1_
         clear n0_ n1_
         have hHeld : w10.cell? ⟨gb157, 0, none⟩ = some (.int .u64 a0_0) ∧ w10.cell? ⟨gb157, 1, none⟩ = some (.string a0_1) := hS_
         refine norm_ (a' := ?_) ?_ ?_
         rotate_left
         ·simp only [putAll, Act.put, qs, qt, qu]
          rfl
         refine one_ (i := 0) (N := some 3) (bm 12 989) rfl rfl (one_of HT_.out (by kernel_rfl)) (by decide) (fun K hK => ?_)
         refine Kd.R_lit_step (Kd.int .u8) _ 5 ?hg (N := 3) ?hd (xs := ([0] : List Int)) (inner := [.int .u8 0]) (ok := fun _ => True) (okp := fun _ => True) ?hr ?hp (fun _ hk => hk) trivial (Below.refl _ _) (Nat.le_refl _) (by simp) ?_; (case hd => rfl); (case hg => rfl); (case hr => first | (go_simp; done) | (go_simp; rfl)); (case hp => exact (Reps.one (show Kd.M (Kd.int .u8) _ _ _ 0 [.int .u8 0] from rfl) (Reps.none _ _)))
         intro v159 w11 ho12 hb hg_ hnew_
         clear hg_ hnew_
         (first | rw [← Ny158.out] at ho12 | (simp only [Int.reduceToNat] at ho12; rw [← Ny158.out] at ho12))
         have n0_ := qf (Kd.R_lower ho12 (below_size (by repeat (first | (with_reducible first | exact HB.out | apply qa | apply qb | apply qc | refine qg ?_ GE157.out) | exact HB.out))))
         have n1_ := qf (blk_below (g := gb157) (o := .cells #[.int .u64 a0_0, .string a0_1] 46 (0, 0)) (by (with_reducible repeat (first | refine blk_drewN ?_ _ | refine blk_drew ?_ | refine qh ?_ _)); exact BK157.out) hb)
         have n2_ := qf (below_step (by repeat (first | (with_reducible first | exact HB.out | apply qa | apply qb | apply qc | refine qg ?_ GE157.out) | exact HB.out)) hb)
         clear BK157
         clear HB
         have HO160 := n0_
         have BK157 := n1_
         have HB := n2_
         clear n0_ n1_ n2_
         clear hb ho12
         refine hK.out _ _ ⟨(blk_cell BK157.out 0).trans rfl, (blk_cell BK157.out 1).trans rfl⟩ (fun hHeld => ?_)
         clear hK K
         refine norm_ (a' := ?_) ?_ ?_
         rotate_left
         ·show Act.put _ (some 3) _ = _
          simp only [Act.put, qs, qt, qu, i64_w, i32_w]
          rfl
         exact norm_ (by first | (simp only [putAll, Act.put, qs, qt, qu]; done) | (simp only [putAll, Act.put, qs, qt, qu]; rfl)) (hJ0_4_9 (v159) _ ⟨hHeld, (by (with_reducible repeat (first | apply Kd.R_alloc | apply Kd.R_drewN | apply Kd.R_drew)); exact HO160.out), (by (with_reducible repeat (first | refine blk_drewN ?_ _ | refine blk_drew ?_ | refine qh ?_ _)); exact BK157.out), (by repeat (first | (with_reducible first | exact HB.out | apply qa | apply qb | apply qc | refine qg ?_ GE157.out) | exact HB.out))⟩)
       ·skip
        rintro v159 w11 ⟨hS_, h0_, h1_, h2_⟩
        have n0_ : Aside0 (Kd.R (Kd.int .u8) 5 w11 w.heap.size (fun _ => True) v159 y158) := ⟨h0_⟩
        have n1_ : Aside0 (w11.heap[gb157]? = some (.cells #[.int .u64 a0_0, .string a0_1] 46 (0, 0))) := ⟨h1_⟩
        have n2_ : Aside0 (Below w.heap.size w w11) := ⟨h2_⟩
        clear BK157
        clear HB
        clear h0_ h1_ h2_
        have HO160 := n0_
        have BK157 := n1_
        have HB := n2_
        clear n0_ n1_ n2_
        have hHeld : w11.cell? ⟨gb157, 0, none⟩ = some (.int .u64 a0_0) ∧ w11.cell? ⟨gb157, 1, none⟩ = some (.string a0_1) := hS_
        refine norm_ (a' := ?_) ?_ ?_
        rotate_left
        ·simp only [putAll, Act.put, qs, qt, qu]
         rfl
        refine two_ (i := 1) (j := 9) (Ni := some 4) (Nj := some 12) (bm 12 479) (bm 12 989) rfl rfl rfl rfl (two_of HT_.out (by kernel_rfl)) (by decide) (by decide) (fun K hK => ?_) (fun K hK => ?_)
        ·skip
         have hcv12 := own_string (P := Tryd.prog) Tryd.underlying111 Tryd.underlying5 Tryd.underlying9 (Kd.own_of_R HO160.out)
         refine value_ (w1 := ?_) (v := ?_) (by rfl) rfl ?_ ?_
         rotate_left 2
         ·go_simp
          constructor
          ·rfl
          ·rfl
         clear hcv12
         refine hK.out _ _ ⟨(blk_cell BK157.out 0).trans rfl, (blk_cell BK157.out 1).trans rfl⟩ (fun hHeld => ?_)
         clear hK K
         refine norm_ (a' := ?_) ?_ ?_
         rotate_left
         ·show Act.put _ (some 4) _ = _
          simp only [Act.put, qs, qt, qu, i64_w, i32_w]
          rfl
         refine pure_ (i := 5) (N := some 8) (v := ?_) (a' := ?_) (bm 12 511) rfl rfl (any_of HT_.out (by kernel_rfl)) (fun _ _ _ h => h) (Or.inl ⟨by rfl, ?_⟩) ?_ ?_
         rotate_left
         ·intro w'
          go_simp
          with_reducible rfl
         rotate_left
         ·simp only [Act.put, qs, qt, qu, i64_w, i32_w]
          rfl
         exact norm_ (by first | (simp only [putAll, Act.put, qs, qt, qu]; done) | (simp only [putAll, Act.put, qs, qt, qu]; rfl)) (hJ0_1_4 (v159) _ ⟨hHeld, (by (with_reducible repeat (first | apply Kd.R_alloc | apply Kd.R_drewN | apply Kd.R_drew)); exact HO160.out), (by (with_reducible repeat (first | refine blk_drewN ?_ _ | refine blk_drew ?_ | refine qh ?_ _)); exact BK157.out), (by repeat (first | (with_reducible first | exact HB.out | apply qa | apply qb | apply qc | refine qg ?_ GE157.out) | exact HB.out))⟩)
        ·skip
         refine goes_ Tryd.func108 (by kernel_rfl) rfl #[.agg #[.bool true, .int .u64 0, .string a0_1]] (by rfl) rfl rfl (by (try simp only [List.map_toArray, List.map_cons, List.map_nil]); first | done | rfl | (simp only [List.length_drop, qw]; rfl)) ?_
         with_reducible refine (saltusref02_One.calls true 0 a0_1 t162 _ A4.out).mono ?_
         rintro e w12 ⟨rfl, hb⟩
         refine ⟨_, rfl, ?_⟩
         have n0_ := qf (Kd.R_below (by (with_reducible repeat (first | apply Kd.R_alloc | apply Kd.R_drewN | apply Kd.R_drew)); exact HO160.out) hb)
         have n1_ := qf (blk_below (g := gb157) (o := .cells #[.int .u64 a0_0, .string a0_1] 46 (0, 0)) (by (with_reducible repeat (first | refine blk_drewN ?_ _ | refine blk_drew ?_ | refine qh ?_ _)); exact BK157.out) hb)
         have n2_ := qf (below_step (by repeat (first | (with_reducible first | exact HB.out | apply qa | apply qb | apply qc | refine qg ?_ GE157.out) | exact HB.out)) hb)
         clear HO160
         clear BK157
         clear HB
         have HO160 := n0_
         have BK157 := n1_
         have HB := n2_
         clear n0_ n1_ n2_
         (try clear hb)
         (try clear hb2)
         (try clear hk)
         (try clear hi)
         refine hK.out _ _ ⟨(blk_cell BK157.out 0).trans rfl, (blk_cell BK157.out 1).trans rfl⟩ (fun hHeld => ?_)
         clear hK K
         refine norm_ (a' := ?_) ?_ ?_
         rotate_left
         ·show Act.put _ (some 12) _ = _
          simp only [Act.put, qs, qt, qu, i64_w, i32_w]
          rfl
         exact norm_ (by first | (simp only [putAll, Act.put, qs, qt, qu]; done) | (simp only [putAll, Act.put, qs, qt, qu]; rfl)) (hJ0_4_9 (v159) _ ⟨hHeld, (by (with_reducible repeat (first | apply Kd.R_alloc | apply Kd.R_drewN | apply Kd.R_drew)); exact HO160.out), (by (with_reducible repeat (first | refine blk_drewN ?_ _ | refine blk_drew ?_ | refine qh ?_ _)); exact BK157.out), (by repeat (first | (with_reducible first | exact HB.out | apply qa | apply qb | apply qc | refine qg ?_ GE157.out) | exact HB.out))⟩)
      ·skip
       rintro v159 w11 ⟨hS_, h0_, h1_, h2_⟩
       have n0_ : Aside0 (Kd.R (Kd.int .u8) 5 w11 w.heap.size (fun _ => True) v159 y158) := ⟨h0_⟩
       have n1_ : Aside0 (w11.heap[gb157]? = some (.cells #[.int .u64 a0_0, .string a0_1] 46 (0, 0))) := ⟨h1_⟩
       have n2_ : Aside0 (Below w.heap.size w w11) := ⟨h2_⟩
       clear BK157
       clear HB
       clear h0_ h1_ h2_
       have HO160 := n0_
       have BK157 := n1_
       have HB := n2_
       clear n0_ n1_ n2_
       have hHeld : w11.cell? ⟨gb157, 0, none⟩ = some (.int .u64 a0_0) ∧ w11.cell? ⟨gb157, 1, none⟩ = some (.string a0_1) := hS_
       refine norm_ (a' := ?_) ?_ ?_
       rotate_left
       ·simp only [putAll, Act.put, qs, qt, qu]
        rfl
       refine one_ (i := 4) (N := some 7) (bm 12 479) rfl rfl (one_of HT_.out (by kernel_rfl)) (by decide) (fun K hK => ?_)
       refine goes_ Tryd.func64 (by kernel_rfl) rfl #[.int .u64 a0_0, .int .i64 8] (by rfl) rfl rfl (by (try simp only [List.map_toArray, List.map_cons, List.map_nil]); first | done | rfl | (simp only [List.length_drop, qw]; rfl)) ?_
       with_reducible refine (saltusref02_Low.calls a0_0 8 t161 _ A2.out).mono ?_
       rintro e w12 ⟨rfl, hb⟩
       refine ⟨_, rfl, ?_⟩
       have n0_ := qf (Kd.R_below (by (with_reducible repeat (first | apply Kd.R_alloc | apply Kd.R_drewN | apply Kd.R_drew)); exact HO160.out) hb)
       have n1_ := qf (blk_below (g := gb157) (o := .cells #[.int .u64 a0_0, .string a0_1] 46 (0, 0)) (by (with_reducible repeat (first | refine blk_drewN ?_ _ | refine blk_drew ?_ | refine qh ?_ _)); exact BK157.out) hb)
       have n2_ := qf (below_step (by repeat (first | (with_reducible first | exact HB.out | apply qa | apply qb | apply qc | refine qg ?_ GE157.out) | exact HB.out)) hb)
       clear HO160
       clear BK157
       clear HB
       have HO160 := n0_
       have BK157 := n1_
       have HB := n2_
       clear n0_ n1_ n2_
       (try clear hb)
       (try clear hb2)
       (try clear hk)
       (try clear hi)
       refine hK.out _ _ ⟨(blk_cell BK157.out 0).trans rfl, (blk_cell BK157.out 1).trans rfl⟩ (fun hHeld => ?_)
       clear hK K
       refine norm_ (a' := ?_) ?_ ?_
       rotate_left
       ·show Act.put _ (some 7) _ = _
        simp only [Act.put, qs, qt, qu, i64_w, i32_w]
        rfl
       refine pure_ (i := 5) (N := some 8) (v := ?_) (a' := ?_) (bm 12 511) rfl rfl (any_of HT_.out (by kernel_rfl)) (fun _ _ _ h => h) (Or.inl ⟨by rfl, ?_⟩) ?_ ?_
       rotate_left
       ·intro w'
        go_simp
        with_reducible rfl
       rotate_left
       ·simp only [Act.put, qs, qt, qu, i64_w, i32_w]
        rfl
       exact norm_ (by first | (simp only [putAll, Act.put, qs, qt, qu]; done) | (simp only [putAll, Act.put, qs, qt, qu]; rfl)) (hJ0_1_4 (v159) _ ⟨hHeld, (by (with_reducible repeat (first | apply Kd.R_alloc | apply Kd.R_drewN | apply Kd.R_drew)); exact HO160.out), (by (with_reducible repeat (first | refine blk_drewN ?_ _ | refine blk_drew ?_ | refine qh ?_ _)); exact BK157.out), (by repeat (first | (with_reducible first | exact HB.out | apply qa | apply qb | apply qc | refine qg ?_ GE157.out) | exact HB.out))⟩)
     ·skip
      rintro v159 w12 ⟨hS_, h0_, h1_, h2_⟩
      have n0_ : Aside0 (Kd.R (Kd.int .u8) 5 w12 w.heap.size (fun _ => True) v159 y158) := ⟨h0_⟩
      have n1_ : Aside0 (w12.heap[gb157]? = some (.cells #[.int .u64 a0_0, .string a0_1] 46 (0, 0))) := ⟨h1_⟩
      have n2_ : Aside0 (Below w.heap.size w w12) := ⟨h2_⟩
      clear BK157
      clear HB
      clear h0_ h1_ h2_
      have HO160 := n0_
      have BK157 := n1_
      have HB := n2_
      clear n0_ n1_ n2_
      have hHeld : w12.cell? ⟨gb157, 0, none⟩ = some (.int .u64 a0_0) ∧ w12.cell? ⟨gb157, 1, none⟩ = some (.string a0_1) := hS_
      refine norm_ (a' := ?_) ?_ ?_
      rotate_left
      ·simp only [putAll, Act.put, qs, qt, qu]
       rfl
      refine one_ (i := 1) (N := some 4) (bm 12 991) rfl rfl (one_of HT_.out (by kernel_rfl)) (by decide) (fun K hK => ?_)
      have hcv13 := own_string (P := Tryd.prog) Tryd.underlying111 Tryd.underlying5 Tryd.underlying9 (Kd.own_of_R HO160.out)
      refine value_ (w1 := ?_) (v := ?_) (by rfl) rfl ?_ ?_
      rotate_left 2
      ·go_simp
       constructor
       ·rfl
       ·rfl
      clear hcv13
      refine hK.out _ _ ⟨(blk_cell BK157.out 0).trans rfl, (blk_cell BK157.out 1).trans rfl⟩ (fun hHeld => ?_)
      clear hK K
      refine norm_ (a' := ?_) ?_ ?_
      rotate_left
      ·show Act.put _ (some 4) _ = _
       simp only [Act.put, qs, qt, qu, i64_w, i32_w]
       rfl
      refine pure_ (i := 5) (N := some 8) (v := ?_) (a' := ?_) (bm 12 1023) rfl rfl (any_of HT_.out (by kernel_rfl)) (fun _ _ _ h => h) (Or.inl ⟨by rfl, ?_⟩) ?_ ?_
      rotate_left
      ·intro w'
       go_simp
       with_reducible rfl
      rotate_left
      ·simp only [Act.put, qs, qt, qu, i64_w, i32_w]
       rfl
      exact norm_ (by first | (simp only [putAll, Act.put, qs, qt, qu]; done) | (simp only [putAll, Act.put, qs, qt, qu]; rfl)) (hJ0_1_4_9 (v159) _ ⟨hHeld, (by (with_reducible repeat (first | apply Kd.R_alloc | apply Kd.R_drewN | apply Kd.R_drew)); exact HO160.out), (by (with_reducible repeat (first | refine blk_drewN ?_ _ | refine blk_drew ?_ | refine qh ?_ _)); exact BK157.out), (by repeat (first | (with_reducible first | exact HB.out | apply qa | apply qb | apply qc | refine qg ?_ GE157.out) | exact HB.out))⟩)
    ·skip
     rintro v159 w12 ⟨hS_, h0_, h1_, h2_⟩
     have n0_ : Aside0 (Kd.R (Kd.int .u8) 5 w12 w.heap.size (fun _ => True) v159 y158) := ⟨h0_⟩
     have n1_ : Aside0 (w12.heap[gb157]? = some (.cells #[.int .u64 a0_0, .string a0_1] 46 (0, 0))) := ⟨h1_⟩
     have n2_ : Aside0 (Below w.heap.size w w12) := ⟨h2_⟩
     clear BK157
     clear HB
     clear h0_ h1_ h2_
     have HO160 := n0_
     have BK157 := n1_
     have HB := n2_
     clear n0_ n1_ n2_
     have hHeld : w12.cell? ⟨gb157, 0, none⟩ = some (.int .u64 a0_0) ∧ w12.cell? ⟨gb157, 1, none⟩ = some (.string a0_1) := hS_
     refine norm_ (a' := ?_) ?_ ?_
     rotate_left
     ·simp only [putAll, Act.put, qs, qt, qu]
      rfl
     refine one_ (i := 9) (N := some 12) (bm 12 1023) rfl rfl (one_of HT_.out (by kernel_rfl)) (by decide) (fun K hK => ?_)
     refine goes_ Tryd.func108 (by kernel_rfl) rfl #[.agg #[.bool true, .int .u64 0, .string a0_1]] (by rfl) rfl rfl (by (try simp only [List.map_toArray, List.map_cons, List.map_nil]); first | done | rfl | (simp only [List.length_drop, qw]; rfl)) ?_
     with_reducible refine (saltusref02_One.calls true 0 a0_1 t162 _ A4.out).mono ?_
     rintro e w13 ⟨rfl, hb⟩
     refine ⟨_, rfl, ?_⟩
     have n0_ := qf (Kd.R_below (by (with_reducible repeat (first | apply Kd.R_alloc | apply Kd.R_drewN | apply Kd.R_drew)); exact HO160.out) hb)
     have n1_ := qf (blk_below (g := gb157) (o := .cells #[.int .u64 a0_0, .string a0_1] 46 (0, 0)) (by (with_reducible repeat (first | refine blk_drewN ?_ _ | refine blk_drew ?_ | refine qh ?_ _)); exact BK157.out) hb)
     have n2_ := qf (below_step (by repeat (first | (with_reducible first | exact HB.out | apply qa | apply qb | apply qc | refine qg ?_ GE157.out) | exact HB.out)) hb)
     clear HO160
     clear BK157
     clear HB
     have HO160 := n0_
     have BK157 := n1_
     have HB := n2_
     clear n0_ n1_ n2_
     (try clear hb)
     (try clear hb2)
     (try clear hk)
     (try clear hi)
     refine hK.out _ _ ⟨(blk_cell BK157.out 0).trans rfl, (blk_cell BK157.out 1).trans rfl⟩ (fun hHeld => ?_)
     clear hK K
     refine norm_ (a' := ?_) ?_ ?_
     rotate_left
     ·show Act.put _ (some 12) _ = _
      simp only [Act.put, qs, qt, qu, i64_w, i32_w]
      rfl
     exact norm_ (by first | (simp only [putAll, Act.put, qs, qt, qu]; done) | (simp only [putAll, Act.put, qs, qt, qu]; rfl)) (hJ0_1_4_9 (v159) _ ⟨hHeld, (by (with_reducible repeat (first | apply Kd.R_alloc | apply Kd.R_drewN | apply Kd.R_drew)); exact HO160.out), (by (with_reducible repeat (first | refine blk_drewN ?_ _ | refine blk_drew ?_ | refine qh ?_ _)); exact BK157.out), (by repeat (first | (with_reducible first | exact HB.out | apply qa | apply qb | apply qc | refine qg ?_ GE157.out) | exact HB.out))⟩)
   rintro v159 w13 ⟨hS_, h0_, h1_, h2_⟩
   have n0_ : Aside0 (Kd.R (Kd.int .u8) 5 w13 w.heap.size (fun _ => True) v159 y158) := ⟨h0_⟩
   have n1_ : Aside0 (w13.heap[gb157]? = some (.cells #[.int .u64 a0_0, .string a0_1] 46 (0, 0))) := ⟨h1_⟩
   have n2_ : Aside0 (Below w.heap.size w w13) := ⟨h2_⟩
   clear BK157
   clear HB
   clear h0_ h1_ h2_
   have HO160 := n0_
   have BK157 := n1_
   have HB := n2_
   clear n0_ n1_ n2_
   have hHeld : w13.cell? ⟨gb157, 0, none⟩ = some (.int .u64 a0_0) ∧ w13.cell? ⟨gb157, 1, none⟩ = some (.string a0_1) := hS_
   refine norm_ (a' := ?_) ?_ ?_
   rotate_left
   ·simp only [putAll, Act.put, qs, qt, qu]
    rfl
   refine pure_ (i := 10) (N := some 13) (v := ?_) (a' := ?_) (bm 12 2047) rfl rfl (any_of HT_.out (by kernel_rfl)) (fun _ _ _ h => h) (Or.inl ⟨by rfl, ?_⟩) ?_ ?_
   rotate_left
   ·intro w'
    go_simp
    with_reducible rfl
   rotate_left
   ·simp only [Act.put, qs, qt, qu, i64_w, i32_w]
    rfl
   refine pure_ (i := 11) (N := some 2) (v := ?_) (a' := ?_) (bm 12 4095) rfl rfl (any_of HT_.out (by kernel_rfl)) (fun _ _ _ h => h) (Or.inl ⟨by rfl, ?_⟩) ?_ ?_
   rotate_left
   ·intro w'
    go_simp
    with_reducible rfl
   rotate_left
   ·simp only [Act.put, qs, qt, qu, i64_w, i32_w]
    rfl
   refine done_ (done_of HT_.out (by kernel_rfl)) ?_
   try go_wp2
   go_ret
   exact ⟨by first | rfl | (simp [errW_none, errW_some] <;> rfl) | (simp [*, errW_none, errW_some] <;> rfl), by repeat (first | (with_reducible first | exact HB.out | apply qa | apply qb | apply qc | refine qg ?_ GE157.out) | exact HB.out)⟩
  ·rw [if_neg c5] at H
   exact absurd H (by simp)
 ·rw [if_neg c3] at H
  exact absurd H (by simp)
/-! ### saltusref18_Steps: function 57 -/
def saltusref18_Steps.l0 : Nat → List ByteArray → Int → List (List ByteArray) → List (List ByteArray) → Option (List ByteArray)
 | 0, _, _, _, _ => none
 | k + 1, x5, x6, x165000, x165001 => if x6 < 8 then ((some (([] : List ByteArray) : List ByteArray)).bind fun y169 => (if 0 ≤ x6 then (if x6 < (x165000.length : Int) then (if y169.length + (rd_L1 x165000 x6).length < 8796093022208 then ((some (y169 ++ (rd_L1 x165000 x6) : List ByteArray)).bind fun y173 => (if x6 < (x5.length : Int) then ((saltusref03_Sum.f (rdOf ByteArray.empty x5 x6)).bind fun t177 => (if y173.length < 8796093022208 then ((some (y173 ++ [t177] : List ByteArray)).bind fun y178 => (if x6 < (x165001.length : Int) then (if y178.length + (rd_L1 x165001 x6).length < 8796093022208 then ((saltusref17_Text.f (wrap64 (x6 + 1)) (y178 ++ (rd_L1 x165001 x6))).bind fun t185 => (if x5.length < 8796093022208 then (saltusref18_Steps.l0 k (x5 ++ [t185]) (wrap64 (x6 + 1)) x165000 x165001) else (none))) else (none)) else (none))) else (none))) else (none))) else (none)) else (none)) else (none))) else (some x5)
def saltusref18_Steps.f (k : Nat) (a0_0 : Int) (a0_1 : ByteArray) (l1_0 : List (List ByteArray)) (l1_1 : List (List ByteArray)) : Option (List ByteArray) := (saltusref17_Item.f a0_0 a0_1).bind fun t165 => (saltusref18_Steps.l0 k (([t165] : List ByteArray)) 0 l1_0 l1_1)
set_option maxHeartbeats 8000000 in
set_option maxRecDepth 100000 in
theorem saltusref18_Steps.calls (k : Nat) (a0_0 : Int) (a0_1 : ByteArray) (A1_0 : Option Addr) (c1_0 : Nat) (l1_0 : List (List ByteArray)) (A1_1 : Option Addr) (c1_1 : Nat) (l1_1 : List (List ByteArray)) (r : List ByteArray) (w : World) (hr1_0 : Kd.C (Kd.slice 9 Kd.string) w A1_0 l1_0.length l1_0) (hc1_0 : l1_0.length ≤ c1_0) (hr1_1 : Kd.C (Kd.slice 9 Kd.string) w A1_1 l1_1.length l1_1) (hc1_1 : l1_1.length ≤ c1_1) (h : saltusref18_Steps.f k a0_0 a0_1 l1_0 l1_1 = some r) :
  Calls Tryd.prog 57 #[.agg #[.int .u64 a0_0, .string a0_1], .agg #[.slice A1_0 l1_0.length c1_0, .slice A1_1 l1_1.length c1_1]] w fun e w' => ∃ v0_ : Value, e = .returned (v0_) ∧ Kd.R Kd.string 9 w' w.heap.size (fun _ => True) v0_ r ∧ Below w.heap.size w w' := by
 have hu46 := Tryd.underlying46
 have hu78 := Tryd.underlying78
 have HR1_0 := qf hr1_0
 have HC1_0 := qf hc1_0
 clear hr1_0 hc1_0
 have HR1_1 := qf hr1_1
 have HC1_1 := qf hc1_1
 clear hr1_1 hc1_1
 have HB := qf (Below.refl w.heap.size w)
 have H : ((saltusref17_Item.f a0_0 a0_1).bind fun t165 => (saltusref18_Steps.l0 k (([t165] : List ByteArray)) 0 l1_0 l1_1)) = some r := h
 clear h
 replace H := qi H
 obtain ⟨t165, A30, H⟩ := H
 (try dsimp only at H)
 have A3 := qf A30
 clear A30
 obtain ⟨y166, hy166⟩ : ∃ y_ : List ByteArray, y_ = (([t165] : List ByteArray)) := ⟨_, rfl⟩
 replace H : (saltusref18_Steps.l0 k y166 0 l1_0 l1_1) = some r := by first | (rw [hy166]; with_reducible exact H) | (have H2_ := (qv _ _).symm.trans H; rw [hy166]; with_reducible exact H2_) | (have H2_ := (qv _ _).symm.trans H; with_reducible exact H2_) | with_reducible exact H | (rw [hy166]; exact H) | exact H
 have Ny166 := qf hy166
 clear hy166
 have H' := qf H
 clear H
 go_enter Tryd.func57, Tryd.ntmps57
 go_wp2_with (first | ((with_reducible refine gate_dst (N := 2) rfl ?_); refine box_event ?hg (N := 2) ?hd (cs := #[.int .u64 a0_0, .string a0_1]) (t := 46) ?hr ?_; (case hd => rfl); (case hg => rfl); (case hr => first | (go_simp; done) | (go_simp; rfl)); intro gb163 hg w4 hbox hb; have n0_ := qf (below_step (by repeat (first | (with_reducible first | exact HB.out | apply qa | apply qb | apply qc) | exact HB.out)) hb); have n1_ := qf (hbox); have n2_ := qf ((by rw [hg]; exact (below_size (by repeat (first | (with_reducible first | exact HB.out | apply qa | apply qb | apply qc) | exact HB.out))) : w.heap.size ≤ gb163)); have n3_ := qf ((by rw [hg]; exact (below_size (by repeat (first | (with_reducible first | exact HB.out | apply qa | apply qb | apply qc) | exact HB.out))) : w.heap.size ≤ gb163)); clear HB; have HB := n0_; have BK163 := n1_; have GW163 := n2_; have GE163 := n3_; clear n0_ n1_ n2_ n3_; clear hb hbox hg) | ((with_reducible refine gate_dst (N := 3) rfl ?_); refine box_event ?hg (N := 3) ?hd (cs := #[.slice A1_0 l1_0.length c1_0, .slice A1_1 l1_1.length c1_1]) (t := 78) ?hr ?_; (case hd => rfl); (case hg => rfl); (case hr => first | (go_simp; done) | (go_simp; rfl)); intro gb164 hg w5 hbox hb; have n0_ := qf (blk_below (g := gb163) (o := .cells #[.int .u64 a0_0, .string a0_1] 46 (0, 0)) (by (with_reducible repeat (first | refine blk_drewN ?_ _ | refine blk_drew ?_ | refine qh ?_ _)); exact BK163.out) hb); have n1_ := qf (below_step (by repeat (first | (with_reducible first | exact HB.out | apply qa | apply qb | apply qc | refine qg ?_ GE163.out) | exact HB.out)) hb); have n2_ := qf (hbox); have n3_ := qf ((by rw [hg]; exact (below_size (by repeat (first | (with_reducible first | exact HB.out | apply qa | apply qb | apply qc | refine qg ?_ GE163.out) | exact HB.out))) : w.heap.size ≤ gb164)); have n4_ := qf ((by rw [hg]; exact (below_size (by repeat (first | (with_reducible first | exact HB.out | apply qa | apply qb | apply qc | refine qg ?_ GE163.out) | exact HB.out))) : w.heap.size ≤ gb164)); have n5_ := qf ((by rw [hg]; exact Nat.ne_of_lt (blk_lt (g := gb163) (o := .cells #[.int .u64 a0_0, .string a0_1] 46 (0, 0)) (by (with_reducible repeat (first | refine blk_drewN ?_ _ | refine blk_drew ?_ | refine qh ?_ _)); exact BK163.out)) : gb163 ≠ gb164)); have n6_ := qf ((by rw [hg]; exact Nat.ne_of_gt (blk_lt (g := gb163) (o := .cells #[.int .u64 a0_0, .string a0_1] 46 (0, 0)) (by (with_reducible repeat (first | refine blk_drewN ?_ _ | refine blk_drew ?_ | refine qh ?_ _)); exact BK163.out)) : gb164 ≠ gb163)); clear BK163; clear HB; have BK163 := n0_; have HB := n1_; have BK164 := n2_; have GW164 := n3_; have GE164 := n4_; have NB163_164 := n5_; have NB164_163 := n6_; clear n0_ n1_ n2_ n3_ n4_ n5_ n6_; clear hb hbox hg; have hnb6 := NB163_164.out; have hnc6 := NB164_163.out; have hcz7_0 : w5.cell? ⟨gb163, 0, none⟩ = some (.int .u64 a0_0) := (blk_cell BK163.out 0).trans rfl; have hcz7_1 : w5.cell? ⟨gb163, 1, none⟩ = some (.string a0_1) := (blk_cell BK163.out 1).trans rfl; have hfz7_0 := blk_frozen BK163.out 0; have hfz7_1 := blk_frozen BK163.out 1) | ((with_reducible refine gate_callee (f := 76) rfl ?_); refine goesL_ (some 9) rfl rfl Tryd.func76 (by kernel_rfl) rfl #[.agg #[.int .u64 a0_0, .string a0_1]] rfl (by (try simp only [List.map_toArray, List.map_cons, List.map_nil]); first | done | rfl | (simp only [List.length_drop, qw]; rfl)) ?_; (with_reducible refine (saltusref17_Item.calls a0_0 a0_1 t165 _ A3.out).mono ?_); rintro e w8 ⟨rfl, hb⟩; refine ⟨_, rfl, ?_⟩; have n0_ := qf (blk_below (g := gb163) (o := .cells #[.int .u64 a0_0, .string a0_1] 46 (0, 0)) (by (with_reducible repeat (first | refine blk_drewN ?_ _ | refine blk_drew ?_ | refine qh ?_ _)); exact BK163.out) hb); have n1_ := qf (blk_below (g := gb164) (o := .cells #[.slice A1_0 l1_0.length c1_0, .slice A1_1 l1_1.length c1_1] 78 (0, 0)) (by (with_reducible repeat (first | refine blk_drewN ?_ _ | refine blk_drew ?_ | refine qh ?_ _)); exact BK164.out) hb); have n2_ := qf (below_step (by repeat (first | (with_reducible first | exact HB.out | apply qa | apply qb | apply qc | refine qg ?_ GE163.out | refine qg ?_ GE164.out) | exact HB.out)) hb); clear BK163; clear BK164; clear HB; have BK163 := n0_; have BK164 := n1_; have HB := n2_; clear n0_ n1_ n2_; (try clear hb); (try clear hb2); (try clear hk); (try clear hi)) | ((with_reducible refine gate_dst (N := 10) rfl ?_); refine Kd.R_lit Kd.string _ 9 ?hg (N := 10) ?hd (xs := ([t165] : List ByteArray)) (inner := [.string t165]) (ok := fun _ => True) (okp := fun _ => True) ?hr ?hp (fun _ hk => hk) trivial (Below.refl _ _) (Nat.le_refl _) (by simp) ?_; (case hd => rfl); (case hg => rfl); (case hr => first | (go_simp; done) | (go_simp; rfl)); (case hp => exact (Reps.one (show Kd.M Kd.string _ _ _ t165 [.string t165] from rfl) (Reps.none _ _))); intro v167 w9 ho10 hb hg_ hnew_; clear hg_ hnew_; (first | rw [← Ny166.out] at ho10 | (simp only [Int.reduceToNat] at ho10; rw [← Ny166.out] at ho10)); have n0_ := qf (Kd.R_lower ho10 (below_size (by repeat (first | (with_reducible first | exact HB.out | apply qa | apply qb | apply qc | refine qg ?_ GE163.out | refine qg ?_ GE164.out) | exact HB.out)))); have n1_ := qf (blk_below (g := gb163) (o := .cells #[.int .u64 a0_0, .string a0_1] 46 (0, 0)) (by (with_reducible repeat (first | refine blk_drewN ?_ _ | refine blk_drew ?_ | refine qh ?_ _)); exact BK163.out) hb); have n2_ := qf (blk_below (g := gb164) (o := .cells #[.slice A1_0 l1_0.length c1_0, .slice A1_1 l1_1.length c1_1] 78 (0, 0)) (by (with_reducible repeat (first | refine blk_drewN ?_ _ | refine blk_drew ?_ | refine qh ?_ _)); exact BK164.out) hb); have n3_ := qf (below_step (by repeat (first | (with_reducible first | exact HB.out | apply qa | apply qb | apply qc | refine qg ?_ GE163.out | refine qg ?_ GE164.out) | exact HB.out)) hb); clear BK163; clear BK164; clear HB; have HO168 := n0_; have BK163 := n1_; have BK164 := n2_; have HB := n3_; clear n0_ n1_ n2_ n3_; clear hb ho10))
 go_loopg [5, 6] k (fun kq v5 v6 w' => ∃ (x5_1 : List ByteArray) (x6_1 : Int), v6 = .int .i64 x6_1 ∧ Aside0 (saltusref18_Steps.l0 kq x5_1 x6_1 l1_0 l1_1 = some r) ∧ Aside0 (kq ≤ k) ∧ Aside0 (Kd.R Kd.string 9 w' w.heap.size (fun _ => True) v5 x5_1) ∧ Aside0 (w'.heap[gb163]? = some (.cells #[.int .u64 a0_0, .string a0_1] 46 (0, 0))) ∧ Aside0 (w'.heap[gb164]? = some (.cells #[(.slice A1_0 l1_0.length c1_0), (.slice A1_1 l1_1.length c1_1)] 78 (0, 0))) ∧ Aside0 (Below w.heap.size w w'))
 case atStart => exact ⟨(y166), (0), (by first | rfl | (simp; done) | (simp [*]; done)), H', ⟨Nat.le_refl _⟩, ⟨by (with_reducible repeat (first | apply Kd.R_alloc | apply Kd.R_drewN | apply Kd.R_drew)); exact HO168.out⟩, ⟨by (with_reducible repeat (first | refine blk_drewN ?_ _ | refine blk_drew ?_ | refine qh ?_ _)); exact BK163.out⟩, ⟨by (with_reducible repeat (first | refine blk_drewN ?_ _ | refine blk_drew ?_ | refine qh ?_ _)); exact BK164.out⟩, ⟨by repeat (first | (with_reducible first | exact HB.out | apply qa | apply qb | apply qc | refine qg ?_ GE163.out | refine qg ?_ GE164.out) | exact HB.out)⟩⟩
 case round =>
  clear H'
  try clear c1
  try clear p2
  try clear c5
  try clear c6
  try clear c7
  try clear hcz7_0
  try clear hcz7_1
  try clear hfz7_0
  try clear hfz7_1
  obtain ⟨x5_1, x6_1, rfl, HA, HK1, HO_5, BK163, BK164, HB⟩ := hrel
  cases gk with
  | zero => exact absurd HA.out (by simp [saltusref18_Steps.l0])
  | succ k1 =>
   have H := HA.out
   clear HA
   simp only [saltusref18_Steps.l0] at H
   by_cases c11 : x6_1 < 8
   ·rw [if_pos c11] at H
    have c11b0 : decide (x6_1 < 8) = true := qj c11
    clear c11
    obtain ⟨y169, hy169⟩ : ∃ y_ : List ByteArray, y_ = (([] : List ByteArray)) := ⟨_, rfl⟩
    replace H : (if 0 ≤ x6_1 then (if x6_1 < (l1_0.length : Int) then (if y169.length + (rd_L1 l1_0 x6_1).length < 8796093022208 then ((some (y169 ++ (rd_L1 l1_0 x6_1) : List ByteArray)).bind fun y173 => (if x6_1 < (x5_1.length : Int) then ((saltusref03_Sum.f (rdOf ByteArray.empty x5_1 x6_1)).bind fun t177 => (if y173.length < 8796093022208 then ((some (y173 ++ [t177] : List ByteArray)).bind fun y178 => (if x6_1 < (l1_1.length : Int) then (if y178.length + (rd_L1 l1_1 x6_1).length < 8796093022208 then ((saltusref17_Text.f (wrap64 (x6_1 + 1)) (y178 ++ (rd_L1 l1_1 x6_1))).bind fun t185 => (if x5_1.length < 8796093022208 then (saltusref18_Steps.l0 k1 (x5_1 ++ [t185]) (wrap64 (x6_1 + 1)) l1_0 l1_1) else (none))) else (none)) else (none))) else (none))) else (none))) else (none)) else (none)) else (none)) = some r := by first | (rw [hy169]; with_reducible exact H) | (have H2_ := (qv _ _).symm.trans H; rw [hy169]; with_reducible exact H2_) | (have H2_ := (qv _ _).symm.trans H; with_reducible exact H2_) | with_reducible exact H | (rw [hy169]; exact H) | exact H
    have Ny169 := qf hy169
    clear hy169
    by_cases c12 : 0 ≤ x6_1
    ·rw [if_pos c12] at H
     have c12b0 : decide (0 ≤ x6_1) = true := qj c12
     clear c12
     by_cases c13 : x6_1 < (l1_0.length : Int)
     ·rw [if_pos c13] at H
      have c13b0 : decide (x6_1 < (l1_0.length : Int)) = true := qj c13
      clear c13
      by_cases c14 : y169.length + (rd_L1 l1_0 x6_1).length < 8796093022208
      ·rw [if_pos c14] at H
       have LMc14 := qf c14
       clear c14
       obtain ⟨y173, hy173⟩ : ∃ y_ : List ByteArray, y_ = (y169 ++ (rd_L1 l1_0 x6_1)) := ⟨_, rfl⟩
       replace H : (if x6_1 < (x5_1.length : Int) then ((saltusref03_Sum.f (rdOf ByteArray.empty x5_1 x6_1)).bind fun t177 => (if y173.length < 8796093022208 then ((some (y173 ++ [t177] : List ByteArray)).bind fun y178 => (if x6_1 < (l1_1.length : Int) then (if y178.length + (rd_L1 l1_1 x6_1).length < 8796093022208 then ((saltusref17_Text.f (wrap64 (x6_1 + 1)) (y178 ++ (rd_L1 l1_1 x6_1))).bind fun t185 => (if x5_1.length < 8796093022208 then (saltusref18_Steps.l0 k1 (x5_1 ++ [t185]) (wrap64 (x6_1 + 1)) l1_0 l1_1) else (none))) else (none)) else (none))) else (none))) else (none)) = some r := by first | (rw [hy173]; with_reducible exact H) | (have H2_ := (qv _ _).symm.trans H; rw [hy173]; with_reducible exact H2_) | (have H2_ := (qv _ _).symm.trans H; with_reducible exact H2_) | with_reducible exact H | (rw [hy173]; exact H) | exact H
       have Ny173 := qf hy173
       clear hy173
       by_cases c15 : x6_1 < (x5_1.length : Int)
       ·rw [if_pos c15] at H
        have c15b0 : decide (x6_1 < (x5_1.length : Int)) = true := qj c15
        clear c15
        replace H := qi H
        obtain ⟨t177, A160, H⟩ := H
        (try dsimp only at H)
        have A16 := qf A160
        clear A160
        by_cases c17 : y173.length < 8796093022208
        ·rw [if_pos c17] at H
         have LMc17 := qf c17
         clear c17
         obtain ⟨y178, hy178⟩ : ∃ y_ : List ByteArray, y_ = (y173 ++ [t177]) := ⟨_, rfl⟩
         replace H : (if x6_1 < (l1_1.length : Int) then (if y178.length + (rd_L1 l1_1 x6_1).length < 8796093022208 then ((saltusref17_Text.f (wrap64 (x6_1 + 1)) (y178 ++ (rd_L1 l1_1 x6_1))).bind fun t185 => (if x5_1.length < 8796093022208 then (saltusref18_Steps.l0 k1 (x5_1 ++ [t185]) (wrap64 (x6_1 + 1)) l1_0 l1_1) else (none))) else (none)) else (none)) = some r := by first | (rw [hy178]; with_reducible exact H) | (have H2_ := (qv _ _).symm.trans H; rw [hy178]; with_reducible exact H2_) | (have H2_ := (qv _ _).symm.trans H; with_reducible exact H2_) | with_reducible exact H | (rw [hy178]; exact H) | exact H
         have Ny178 := qf hy178
         clear hy178
         by_cases c18 : x6_1 < (l1_1.length : Int)
         ·rw [if_pos c18] at H
          have c18b0 : decide (x6_1 < (l1_1.length : Int)) = true := qj c18
          clear c18
          by_cases c19 : y178.length + (rd_L1 l1_1 x6_1).length < 8796093022208
          ·rw [if_pos c19] at H
           have LMc19 := qf c19
           clear c19
           obtain ⟨y182, hy182⟩ : ∃ y_ : List ByteArray, y_ = (y178 ++ (rd_L1 l1_1 x6_1)) := ⟨_, rfl⟩
           replace H : ((saltusref17_Text.f (wrap64 (x6_1 + 1)) y182).bind fun t185 => (if x5_1.length < 8796093022208 then (saltusref18_Steps.l0 k1 (x5_1 ++ [t185]) (wrap64 (x6_1 + 1)) l1_0 l1_1) else (none))) = some r := by first | (rw [hy182]; with_reducible exact H) | (have H2_ := (qv _ _).symm.trans H; rw [hy182]; with_reducible exact H2_) | (have H2_ := (qv _ _).symm.trans H; with_reducible exact H2_) | with_reducible exact H | (rw [hy182]; exact H) | exact H
           have Ny182 := qf hy182
           clear hy182
           replace H := qi H
           obtain ⟨t185, A200, H⟩ := H
           (try dsimp only at H)
           have A20 := qf A200
           clear A200
           by_cases c21 : x5_1.length < 8796093022208
           ·rw [if_pos c21] at H
            have LMc21 := qf c21
            clear c21
            obtain ⟨y186, hy186⟩ : ∃ y_ : List ByteArray, y_ = (x5_1 ++ [t185]) := ⟨_, rfl⟩
            replace H : (saltusref18_Steps.l0 k1 y186 (wrap64 (x6_1 + 1)) l1_0 l1_1) = some r := by first | (rw [hy186]; with_reducible exact H) | (have H2_ := (qv _ _).symm.trans H; rw [hy186]; with_reducible exact H2_) | (have H2_ := (qv _ _).symm.trans H; with_reducible exact H2_) | with_reducible exact H | (rw [hy186]; exact H) | exact H
            have Ny186 := qf hy186
            clear hy186
            have H' := qf H
            clear H
            go_wp2_with (first | ((with_reducible refine gate_dst (N := 15) rfl ?_); refine Kd.R_lit Kd.string _ 9 ?hg (N := 15) ?hd (xs := ([] : List ByteArray)) (inner := []) (ok := fun _ => True) (okp := fun _ => True) ?hr ?hp (fun _ hk => hk) trivial (Below.refl _ _) (Nat.le_refl _) (by simp) ?_; (case hd => rfl); (case hg => rfl); (case hr => first | (go_simp; done) | (go_simp; rfl)); (case hp => exact (Reps.none _ _)); intro v170 w22 ho23 hb hg_ hnew_; clear hg_ hnew_; (first | rw [← Ny169.out] at ho23 | (simp only [Int.reduceToNat] at ho23; rw [← Ny169.out] at ho23)); have n0_ := qf (Kd.R_elder' (by (with_reducible repeat (first | apply Kd.R_alloc | apply Kd.R_drewN | apply Kd.R_drew)); exact HO_5.out) (Kd.R_base ho23) hb); have n1_ := qf (Kd.R_lower (Kd.R_new' ho23 (Kd.R_lt (by (with_reducible repeat (first | apply Kd.R_alloc | apply Kd.R_drewN | apply Kd.R_drew)); exact HO_5.out))) (below_size (by repeat (first | (with_reducible first | exact HB.out | apply qa | apply qb | apply qc | refine qg ?_ GE163.out | refine qg ?_ GE164.out) | exact HB.out)))); have n2_ := qf (blk_below (g := gb163) (o := .cells #[.int .u64 a0_0, .string a0_1] 46 (0, 0)) (by (with_reducible repeat (first | refine blk_drewN ?_ _ | refine blk_drew ?_ | refine qh ?_ _)); exact BK163.out) hb); have n3_ := qf (blk_below (g := gb164) (o := .cells #[.slice A1_0 l1_0.length c1_0, .slice A1_1 l1_1.length c1_1] 78 (0, 0)) (by (with_reducible repeat (first | refine blk_drewN ?_ _ | refine blk_drew ?_ | refine qh ?_ _)); exact BK164.out) hb); have n4_ := qf (below_step (by repeat (first | (with_reducible first | exact HB.out | apply qa | apply qb | apply qc | refine qg ?_ GE163.out | refine qg ?_ GE164.out) | exact HB.out)) hb); clear HO_5; clear BK163; clear BK164; clear HB; have HO_5 := n0_; have HO171 := n1_; have BK163 := n2_; have BK164 := n3_; have HB := n4_; clear n0_ n1_ n2_ n3_ n4_; clear hb ho23; have hnb24 := NB164_163.out; have hnc24 := NB163_164.out; have hcz25_0 : w22.cell? ⟨gb164, 0, none⟩ = some (.slice A1_0 l1_0.length c1_0) := (blk_cell BK164.out 0).trans rfl; have hcz25_1 : w22.cell? ⟨gb164, 1, none⟩ = some (.slice A1_1 l1_1.length c1_1) := (blk_cell BK164.out 1).trans rfl; have hfz25_0 := blk_frozen BK164.out 0; have hfz25_1 := blk_frozen BK164.out 1; have p172 : 0 ≤ (x6_1 : Int) := qe (by first | (with_reducible assumption) | assumption); have q172 : x6_1 < (l1_0.length : Int) := qe (by first | (with_reducible assumption) | assumption); obtain ⟨ad172, A172_0, c172_0, e172, hx172_0, hl172_0, hi172_0⟩ := at_L1 HR1_0.out x6_1 p172 q172; cases e172; replace hx172_0 := (HB.out.cell (qd w _ hx172_0)).trans hx172_0; have HR172_0 := qf hi172_0; have HC172_0 := qf hl172_0; clear hi172_0 hl172_0; replace p172 := eq_true p172; replace q172 := eq_true q172) | ((with_reducible refine gate_builtin (b := .append) (xs := #[.tmp 16, .tmp 21]) rfl ?_); at_builtin; refine Kd.R_append_rows Kd.string (w0 := w) w.heap.size rfl (.tmp 16) (.tmp 21) 49 9 (.string ⟨#[]⟩) 16 rfl Tryd.underlying49 info9 rfl (by decide) (by omega) v170 y169 (rd_L1 l1_0 x6_1) _ _ _ (fun k_ => some k_ ≠ (u5 : Value).ownBlock) (fun _ => False) rfl rfl ?aO ?aR (fun _ _ h => h) (fun _ h => h.elim) ?aF ?aB ?aS ?aL ?_; (case aR => repeat (first | exact (Kd.C_below HR172_0.out HB.out) | (with_reducible refine Kd.C_alloc ?_ _) | (with_reducible refine Kd.C_drewN ?_ _) | (with_reducible refine Kd.C_drew ?_))); (case aB => exact (by repeat (first | (with_reducible first | exact HB.out | apply qa | apply qb | apply qc | refine qg ?_ GE163.out | refine qg ?_ GE164.out) | exact HB.out))); (case aF => exact (fun k_ hk => Kd.fresh' (Kd.R_lt (by (with_reducible repeat (first | apply Kd.R_alloc | apply Kd.R_drewN | apply Kd.R_drew)); exact HO_5.out)) k_ hk)); (case aO => exact (by (with_reducible repeat (first | apply Kd.R_alloc | apply Kd.R_drewN | apply Kd.R_drew)); exact Kd.R_mono HO171.out (fun _ hk => hk.2))); (case aS => exact (below_size (by repeat (first | (with_reducible first | exact HB.out | apply qa | apply qb | apply qc | refine qg ?_ GE163.out | refine qg ?_ GE164.out) | exact HB.out)))); (case aL => have := LMc14.out; omega); intro v174 w26 ho hb hg hat; rw [← Ny173.out] at ho; have n0_ := qf (Kd.R_after (ok := (fun _ => True)) (by (with_reducible repeat (first | apply Kd.R_alloc | apply Kd.R_drewN | apply Kd.R_drew)); exact HO_5.out) hg hat); have n1_ := qf (blk_grown (g := gb163) (o := .cells #[.int .u64 a0_0, .string a0_1] 46 (0, 0)) (by (with_reducible repeat (first | refine blk_drewN ?_ _ | refine blk_drew ?_ | refine qh ?_ _)); exact BK163.out) hg (Kd.R_ne HO171.out BK163.out (by decide))); have n2_ := qf (blk_grown (g := gb164) (o := .cells #[.slice (some ad172) l1_0.length c1_0, .slice A1_1 l1_1.length c1_1] 78 (0, 0)) (by (with_reducible repeat (first | refine blk_drewN ?_ _ | refine blk_drew ?_ | refine qh ?_ _)); exact BK164.out) hg (Kd.R_ne HO171.out BK164.out (by decide))); have n3_ := qf (hb); have n4_ := qf (ho); clear HO_5; clear BK163; clear BK164; clear HB; clear HO171; have HO_5 := n0_; have BK163 := n1_; have BK164 := n2_; have HB := n3_; have HO175 := n4_; clear n0_ n1_ n2_ n3_ n4_; clear ho hb hg hat; obtain ⟨Ao27, co27, eo27⟩ := Kd.R_slice HO_5.out; subst eo27; have p176 : 0 ≤ (x6_1 : Int) := qe (by first | (with_reducible assumption) | assumption); have q176 : x6_1 < (x5_1.length : Int) := qe (by first | (with_reducible assumption) | assumption); obtain ⟨ad176, e176, hx176_0⟩ := Kd.at_string (Kd.R_reads' HO_5.out).2.2 x6_1 p176 q176; cases e176; replace p176 := eq_true p176; replace q176 := eq_true q176) | ((with_reducible refine gate_callee (f := 45) rfl ?_); refine goesL_ (some 28) rfl rfl Tryd.func45 (by kernel_rfl) rfl #[.string (rdOf ByteArray.empty x5_1 x6_1)] rfl (by (try simp only [List.map_toArray, List.map_cons, List.map_nil]); first | done | rfl | (simp only [List.length_drop, qw]; rfl)) ?_; (with_reducible refine (saltusref03_Sum.calls (rdOf ByteArray.empty x5_1 x6_1) t177 _ A16.out).mono ?_); rintro e w28 ⟨rfl, hb⟩; refine ⟨_, rfl, ?_⟩; have n0_ := qf (Kd.R_below (by (with_reducible repeat (first | apply Kd.R_alloc | apply Kd.R_drewN | apply Kd.R_drew)); exact HO_5.out) hb); have n1_ := qf (Kd.R_below (by (with_reducible repeat (first | apply Kd.R_alloc | apply Kd.R_drewN | apply Kd.R_drew)); exact HO175.out) hb); have n2_ := qf (blk_below (g := gb163) (o := .cells #[.int .u64 a0_0, .string a0_1] 46 (0, 0)) (by (with_reducible repeat (first | refine blk_drewN ?_ _ | refine blk_drew ?_ | refine qh ?_ _)); exact BK163.out) hb); have n3_ := qf (blk_below (g := gb164) (o := .cells #[.slice (some ad172) l1_0.length c1_0, .slice A1_1 l1_1.length c1_1] 78 (0, 0)) (by (with_reducible repeat (first | refine blk_drewN ?_ _ | refine blk_drew ?_ | refine qh ?_ _)); exact BK164.out) hb); have n4_ := qf (below_step (by repeat (first | (with_reducible first | exact HB.out | apply qa | apply qb | apply qc | refine qg ?_ GE163.out | refine qg ?_ GE164.out) | exact HB.out)) hb); clear HO_5; clear HO175; clear BK163; clear BK164; clear HB; have HO_5 := n0_; have HO175 := n1_; have BK163 := n2_; have BK164 := n3_; have HB := n4_; clear n0_ n1_ n2_ n3_ n4_; (try clear hb); (try clear hb2); (try clear hk); (try clear hi)) | ((with_reducible refine gate_builtin (b := .append) (xs := #[.tmp 23, .tmp 29]) rfl ?_); at_builtin; refine Kd.R_append Kd.string (w0 := w) w.heap.size rfl (.tmp 23) (.tmp 29) 49 9 (.string ⟨#[]⟩) 16 rfl Tryd.underlying49 info9 rfl (by decide) (by omega) v174 y173 t177 [.string t177] (fun k_ => some k_ ≠ (.slice (some ad176) x5_1.length co27 : Value).ownBlock) (fun _ => False) rfl rfl ?aP (fun _ hk => hk.elim) ?aF ?aO ?aB ?aS ?aL ?_; (case aP => exact rfl); (case aB => exact (by repeat (first | (with_reducible first | exact HB.out | apply qa | apply qb | apply qc | refine qg ?_ GE163.out | refine qg ?_ GE164.out) | exact HB.out))); (case aF => exact (fun k_ hk => Kd.fresh' (Kd.R_lt (by (with_reducible repeat (first | apply Kd.R_alloc | apply Kd.R_drewN | apply Kd.R_drew)); exact HO_5.out)) k_ hk)); (case aO => exact (by (with_reducible repeat (first | apply Kd.R_alloc | apply Kd.R_drewN | apply Kd.R_drew)); exact HO175.out)); (case aS => exact (below_size (by repeat (first | (with_reducible first | exact HB.out | apply qa | apply qb | apply qc | refine qg ?_ GE163.out | refine qg ?_ GE164.out) | exact HB.out)))); (case aL => have := LMc17.out; omega); intro v179 w29 ho hb hg hat; rw [← Ny178.out] at ho; have n0_ := qf (Kd.R_after (ok := (fun _ => True)) (by (with_reducible repeat (first | apply Kd.R_alloc | apply Kd.R_drewN | apply Kd.R_drew)); exact HO_5.out) hg hat); have n1_ := qf (blk_grown (g := gb163) (o := .cells #[.int .u64 a0_0, .string a0_1] 46 (0, 0)) (by (with_reducible repeat (first | refine blk_drewN ?_ _ | refine blk_drew ?_ | refine qh ?_ _)); exact BK163.out) hg (Kd.R_ne HO175.out BK163.out (by decide))); have n2_ := qf (blk_grown (g := gb164) (o := .cells #[.slice (some ad172) l1_0.length c1_0, .slice A1_1 l1_1.length c1_1] 78 (0, 0)) (by (with_reducible repeat (first | refine blk_drewN ?_ _ | refine blk_drew ?_ | refine qh ?_ _)); exact BK164.out) hg (Kd.R_ne HO175.out BK164.out (by decide))); have n3_ := qf (hb); have n4_ := qf (ho); clear HO_5; clear BK163; clear BK164; clear HB; clear HO175; have HO_5 := n0_; have BK163 := n1_; have BK164 := n2_; have HB := n3_; have HO180 := n4_; clear n0_ n1_ n2_ n3_ n4_; clear ho hb hg hat; have hcz30_0 : w29.cell? ⟨gb164, 0, none⟩ = some (.slice (some ad172) l1_0.length c1_0) := (blk_cell BK164.out 0).trans rfl; have hcz30_1 : w29.cell? ⟨gb164, 1, none⟩ = some (.slice A1_1 l1_1.length c1_1) := (blk_cell BK164.out 1).trans rfl; have hfz30_0 := blk_frozen BK164.out 0; have hfz30_1 := blk_frozen BK164.out 1; have p181 : 0 ≤ (x6_1 : Int) := qe (by first | (with_reducible assumption) | assumption); have q181 : x6_1 < (l1_1.length : Int) := qe (by first | (with_reducible assumption) | assumption); obtain ⟨ad181, A181_0, c181_0, e181, hx181_0, hl181_0, hi181_0⟩ := at_L1 HR1_1.out x6_1 p181 q181; cases e181; replace hx181_0 := (HB.out.cell (qd w _ hx181_0)).trans hx181_0; have HR181_0 := qf hi181_0; have HC181_0 := qf hl181_0; clear hi181_0 hl181_0; replace p181 := eq_true p181; replace q181 := eq_true q181) | ((with_reducible refine gate_builtin (b := .append) (xs := #[.tmp 31, .tmp 36]) rfl ?_); at_builtin; refine Kd.R_append_rows Kd.string (w0 := w) w.heap.size rfl (.tmp 31) (.tmp 36) 49 9 (.string ⟨#[]⟩) 16 rfl Tryd.underlying49 info9 rfl (by decide) (by omega) v179 y178 (rd_L1 l1_1 x6_1) _ _ _ (fun k_ => some k_ ≠ (.slice (some ad176) x5_1.length co27 : Value).ownBlock) (fun _ => False) rfl rfl ?aO ?aR (fun _ _ h => h) (fun _ h => h.elim) ?aF ?aB ?aS ?aL ?_; (case aR => repeat (first | exact (Kd.C_below HR181_0.out HB.out) | (with_reducible refine Kd.C_alloc ?_ _) | (with_reducible refine Kd.C_drewN ?_ _) | (with_reducible refine Kd.C_drew ?_))); (case aB => exact (by repeat (first | (with_reducible first | exact HB.out | apply qa | apply qb | apply qc | refine qg ?_ GE163.out | refine qg ?_ GE164.out) | exact HB.out))); (case aF => exact (fun k_ hk => Kd.fresh' (Kd.R_lt (by (with_reducible repeat (first | apply Kd.R_alloc | apply Kd.R_drewN | apply Kd.R_drew)); exact HO_5.out)) k_ hk)); (case aO => exact (by (with_reducible repeat (first | apply Kd.R_alloc | apply Kd.R_drewN | apply Kd.R_drew)); exact HO180.out)); (case aS => exact (below_size (by repeat (first | (with_reducible first | exact HB.out | apply qa | apply qb | apply qc | refine qg ?_ GE163.out | refine qg ?_ GE164.out) | exact HB.out)))); (case aL => have := LMc19.out; omega); intro v183 w31 ho hb hg hat; rw [← Ny182.out] at ho; have n0_ := qf (Kd.R_after (ok := (fun _ => True)) (by (with_reducible repeat (first | apply Kd.R_alloc | apply Kd.R_drewN | apply Kd.R_drew)); exact HO_5.out) hg hat); have n1_ := qf (blk_grown (g := gb163) (o := .cells #[.int .u64 a0_0, .string a0_1] 46 (0, 0)) (by (with_reducible repeat (first | refine blk_drewN ?_ _ | refine blk_drew ?_ | refine qh ?_ _)); exact BK163.out) hg (Kd.R_ne HO180.out BK163.out (by decide))); have n2_ := qf (blk_grown (g := gb164) (o := .cells #[.slice (some ad172) l1_0.length c1_0, .slice (some ad181) l1_1.length c1_1] 78 (0, 0)) (by (with_reducible repeat (first | refine blk_drewN ?_ _ | refine blk_drew ?_ | refine qh ?_ _)); exact BK164.out) hg (Kd.R_ne HO180.out BK164.out (by decide))); have n3_ := qf (hb); have n4_ := qf (ho); clear HO_5; clear BK163; clear BK164; clear HB; clear HO180; have HO_5 := n0_; have BK163 := n1_; have BK164 := n2_; have HB := n3_; have HO184 := n4_; clear n0_ n1_ n2_ n3_ n4_; clear ho hb hg hat; obtain ⟨Ao32, co32, eo32⟩ := Kd.R_slice HO184.out; subst eo32) | ((with_reducible refine gate_callee (f := 46) rfl ?_); refine goesL_ (some 42) rfl rfl Tryd.func46 (by kernel_rfl) rfl #[.int .i64 (wrap64 (x6_1 + 1)), .slice Ao32 y182.length co32] rfl (by (try simp only [List.map_toArray, List.map_cons, List.map_nil]); first | done | rfl | (simp only [List.length_drop, qw]; rfl)) ?_; (with_reducible refine (saltusref17_Text.calls (wrap64 (x6_1 + 1)) _ _ y182 t185 _ ?side1 ?side2 A20.out).mono ?_); (case side1 => repeat (first | exact (Kd.R_reads' HO184.out).2.2 | (with_reducible refine Kd.C_alloc ?_ _) | (with_reducible refine Kd.C_drewN ?_ _) | (with_reducible refine Kd.C_drew ?_))); (case side2 => exact (Kd.R_reads' HO184.out).2.1); rintro e w33 ⟨rfl, hb⟩; refine ⟨_, rfl, ?_⟩; have n0_ := qf (Kd.R_below (by (with_reducible repeat (first | apply Kd.R_alloc | apply Kd.R_drewN | apply Kd.R_drew)); exact HO_5.out) hb); have n1_ := qf (Kd.R_below (by (with_reducible repeat (first | apply Kd.R_alloc | apply Kd.R_drewN | apply Kd.R_drew)); exact HO184.out) hb); have n2_ := qf (blk_below (g := gb163) (o := .cells #[.int .u64 a0_0, .string a0_1] 46 (0, 0)) (by (with_reducible repeat (first | refine blk_drewN ?_ _ | refine blk_drew ?_ | refine qh ?_ _)); exact BK163.out) hb); have n3_ := qf (blk_below (g := gb164) (o := .cells #[.slice (some ad172) l1_0.length c1_0, .slice (some ad181) l1_1.length c1_1] 78 (0, 0)) (by (with_reducible repeat (first | refine blk_drewN ?_ _ | refine blk_drew ?_ | refine qh ?_ _)); exact BK164.out) hb); have n4_ := qf (below_step (by repeat (first | (with_reducible first | exact HB.out | apply qa | apply qb | apply qc | refine qg ?_ GE163.out | refine qg ?_ GE164.out) | exact HB.out)) hb); clear HO_5; clear HO184; clear BK163; clear BK164; clear HB; have HO_5 := n0_; have HO184 := n1_; have BK163 := n2_; have BK164 := n3_; have HB := n4_; clear n0_ n1_ n2_ n3_ n4_; (try clear hb); (try clear hb2); (try clear hk); (try clear hi)) | ((with_reducible refine gate_builtin (b := .append) (xs := #[.tmp 38, .tmp 43]) rfl ?_); at_builtin; refine Kd.R_append Kd.string (w0 := w) w.heap.size rfl (.tmp 38) (.tmp 43) 49 9 (.string ⟨#[]⟩) 16 rfl Tryd.underlying49 info9 rfl (by decide) (by omega) (.slice (some ad176) x5_1.length co27) x5_1 t185 [.string t185] (fun k_ => some k_ ≠ (.slice Ao32 y182.length co32 : Value).ownBlock) (fun _ => False) rfl rfl ?aP (fun _ hk => hk.elim) ?aF ?aO ?aB ?aS ?aL ?_; (case aP => exact rfl); (case aB => exact (by repeat (first | (with_reducible first | exact HB.out | apply qa | apply qb | apply qc | refine qg ?_ GE163.out | refine qg ?_ GE164.out) | exact HB.out))); (case aF => exact (fun k_ hk => Kd.fresh' (Kd.R_lt (by (with_reducible repeat (first | apply Kd.R_alloc | apply Kd.R_drewN | apply Kd.R_drew)); exact HO184.out)) k_ hk)); (case aO => exact (by (with_reducible repeat (first | apply Kd.R_alloc | apply Kd.R_drewN | apply Kd.R_drew)); exact Kd.R_mono HO_5.out (fun _ hk => hk.2))); (case aS => exact (below_size (by repeat (first | (with_reducible first | exact HB.out | apply qa | apply qb | apply qc | refine qg ?_ GE163.out | refine qg ?_ GE164.out) | exact HB.out)))); (case aL => have := LMc21.out; omega); intro v187 w34 ho hb hg hat; rw [← Ny186.out] at ho; have n0_ := qf (blk_grown (g := gb163) (o := .cells #[.int .u64 a0_0, .string a0_1] 46 (0, 0)) (by (with_reducible repeat (first | refine blk_drewN ?_ _ | refine blk_drew ?_ | refine qh ?_ _)); exact BK163.out) hg (Kd.R_ne HO_5.out BK163.out (by decide))); have n1_ := qf (blk_grown (g := gb164) (o := .cells #[.slice (some ad172) l1_0.length c1_0, .slice (some ad181) l1_1.length c1_1] 78 (0, 0)) (by (with_reducible repeat (first | refine blk_drewN ?_ _ | refine blk_drew ?_ | refine qh ?_ _)); exact BK164.out) hg (Kd.R_ne HO_5.out BK164.out (by decide))); have n2_ := qf (Kd.R_after (ok := (fun _ => True)) (by (with_reducible repeat (first | apply Kd.R_alloc | apply Kd.R_drewN | apply Kd.R_drew)); exact Kd.R_mono HO184.out (fun _ hk => ⟨trivial, hk⟩)) hg hat); have n3_ := qf (hb); have n4_ := qf (ho); clear BK163; clear BK164; clear HO184; clear HB; clear HO_5; have BK163 := n0_; have BK164 := n1_; have HO184 := n2_; have HB := n3_; have HO188 := n4_; clear n0_ n1_ n2_ n3_ n4_; clear ho hb hg hat))
            go_roundg k1
            case measure => have := HK1.out; omega
            case rel => exact ⟨(y186), (wrap64 (x6_1 + 1)), (by first | rfl | (simp; done) | (simp [*]; done)), H', ⟨by have := HK1.out; omega⟩, ⟨by (with_reducible repeat (first | apply Kd.R_alloc | apply Kd.R_drewN | apply Kd.R_drew)); exact Kd.R_mono HO188.out (fun _ hk => trivial)⟩, ⟨by (with_reducible repeat (first | refine blk_drewN ?_ _ | refine blk_drew ?_ | refine qh ?_ _)); exact BK163.out⟩, ⟨by (with_reducible repeat (first | refine blk_drewN ?_ _ | refine blk_drew ?_ | refine qh ?_ _)); exact BK164.out⟩, ⟨by repeat (first | (with_reducible first | exact HB.out | apply qa | apply qb | apply qc | refine qg ?_ GE163.out | refine qg ?_ GE164.out) | exact HB.out)⟩⟩
           ·rw [if_neg c21] at H
            exact absurd H (by simp)
          ·rw [if_neg c19] at H
           exact absurd H (by simp)
         ·rw [if_neg c18] at H
          exact absurd H (by simp)
        ·rw [if_neg c17] at H
         exact absurd H (by simp)
       ·rw [if_neg c15] at H
        exact absurd H (by simp)
      ·rw [if_neg c14] at H
       exact absurd H (by simp)
     ·rw [if_neg c13] at H
      exact absurd H (by simp)
    ·rw [if_neg c12] at H
     exact absurd H (by simp)
   ·rw [if_neg c11] at H
    have c11b0 : decide (x6_1 < 8) = false := decide_eq_false c11
    clear c11
    obtain rfl := Option.some.inj H
    go_wp2
    go_ret
    exact ⟨_, by first | rfl | (simp [errW_none, errW_some] <;> rfl) | (simp [*, errW_none, errW_some] <;> rfl), by (with_reducible repeat (first | apply Kd.R_alloc | apply Kd.R_drewN | apply Kd.R_drew)); exact HO_5.out, by repeat (first | (with_reducible first | exact HB.out | apply qa | apply qb | apply qc | refine qg ?_ GE163.out | refine qg ?_ GE164.out) | exact HB.out)⟩
end Go.Proofs.YtolbhliepkcihaaDoor.QPA
end
section
namespace Go.Proofs.YtolbhliepkcihaaDoor.QPA
open Go.RowKit Kinds YtolbhliepkcihaaDoorW.PrintWords YtolbhliepkcihaaDoorW.PrintLast YtolbhliepkcihaaDoorW.PrintMore
attribute [local go_sem] max2_int min2_int max_two min_two max_three min_three max_four min_four   -- for this text's walks alone
set_option linter.unusedVariables false
set_option linter.unusedSimpArgs false
/-! ### saltusref18_All: function 94 -/
end Go.Proofs.YtolbhliepkcihaaDoor.QPA
end
section
namespace Go.Proofs.YtolbhliepkcihaaDoor.ProofPure
open Go.RowKit QPA YtolbhliepkcihaaDoorW.PrintWords Kinds Build Lab Sha Mac Codec Tower SkipOps SkipPure
abbrev Rows := List (List ByteArray)
def stepN (x : S46) (b a : Rows) : Nat → ByteArray
 | 0 => itemT x
 | j + 1 => joinT (j + 1) (b.getD j [] ++ [sumS (stepN x b a j)] ++ a.getD j [])
def stepsL (x : S46) (b a : Rows) : List ByteArray := (List.range 9).map (stepN x b a)
def okRows (b : Rows) : Prop := b.length = 8 ∧ ∀ j, j < 8 → (b.getD j []).length ≤ 64 ∧ ∀ s, s ∈ b.getD j [] → s.size = 32
theorem odd_false {s : ByteArray} (h : odd s = false) : s.size = 32 := by
 unfold odd at h
 simp at h
 omega
theorem okRows_of {b : Rows} (hl : b.length = 8) (h : oddRs b = false) : okRows b := by
 refine ⟨hl, fun j hj => ?_⟩
 have hlt : j < b.length := by omega
 have e : b.getD j [] = b[j] := by rw [List.getD_eq_getElem?_getD, List.getElem?_eq_getElem hlt]; rfl
 have ho : oddR b[j] = false := by
  cases hb : oddR b[j] with
  | false => rfl
  | true => rw [oddRs_take b j hlt hb] at h; cases h
 rw [e]
 unfold oddR at ho
 rw [Bool.or_eq_false_iff] at ho
 refine ⟨by have := of_decide_eq_false ho.1; omega, fun s hs => odd_false ?_⟩
 cases hb : odd s with
 | false => rfl
 | true =>
  have := ho.2
  unfold odds at this
  rw [List.any_eq_true.2 ⟨s, hs, hb⟩] at this
  cases this
theorem okRows_cat {b : Rows} (h : okRows b) (j : Nat) (hj : j < 8) : (catS (b.getD j [])).size ≤ 2048 := by
 obtain ⟨h1, h2⟩ := h.2 j hj
 rw [cat32 _ h2]
 omega
theorem stepN_size (x : S46) (b a : Rows) (hx : x.f1.size ≤ 64) (hb : okRows b) (ha : okRows a) (j : Nat) (hj : j ≤ 8) : (stepN x b a j).size ≤ 5000 := by
 cases j with
 | zero => show (itemT x).size ≤ 5000; rw [itemT_size]; omega
 | succ j =>
  have h1 := okRows_cat hb j (by omega)
  have h2 := okRows_cat ha j (by omega)
  show (joinT (j + 1) _).size ≤ 5000
  rw [joinT_size, cat_app, cat_app, cat_one, ByteArray.size_append, ByteArray.size_append, sumS_size]
  omega
theorem rd_rows (b : Rows) (j : Nat) : rd_L1 b (j : Int) = b.getD j [] := by unfold rd_L1; rw [Int.toNat_natCast]
theorem steps_rd (x : S46) (b a : Rows) (j n : Nat) (h : j < n) : rdOf ByteArray.empty ((List.range n).map (stepN x b a)) (j : Int) = stepN x b a j := by
 unfold rdOf
 rw [Int.toNat_natCast, List.getD_eq_getElem?_getD, List.getElem?_map, List.getElem?_range h]
 rfl
theorem range_next (x : S46) (b a : Rows) (n : Nat) : (List.range n).map (stepN x b a) ++ [stepN x b a n] = (List.range (n + 1)).map (stepN x b a) := by
 rw [List.range_succ, List.map_append]
 rfl
theorem step_text (x : S46) (b a : Rows) (j : Nat) : ((((⟨#[2]⟩ : ByteArray) ++ numS (j + 1)) ++ catS (b.getD j [])) ++ sumS (stepN x b a j)) ++ catS (a.getD j []) = stepN x b a (j + 1) := by
 show _ = ofNats [2] ++ numS (j + 1) ++ catS (b.getD j [] ++ [sumS (stepN x b a j)] ++ a.getD j [])
 rw [cat_app, cat_app, cat_one]
 simp only [ByteArray.append_assoc]
 rfl
theorem steps_l0 (x : S46) (b a : Rows) (hx : x.f1.size ≤ 64) (hb : okRows b) (ha : okRows a) (d : Nat) : ∀ j, j + d = 8 → Ev (fun k => proof_Steps.l0 k ((List.range (j + 1)).map (stepN x b a)) (j : Int) b a) (stepsL x b a, 0) := by
 induction d with
 | zero =>
  intro j hj
  obtain rfl : j = 8 := by omega
  refine Ev.step (fun k => ?_) (Ev.now _)
  rw [proof_Steps.l0, if_neg (by decide)]
  rfl
 | succ d ih =>
  intro j hj
  have h := ih (j + 1) (by omega)
  have hlen : ((List.range (j + 1)).map (stepN x b a)).length = j + 1 := by simp
  have z1 := stepN_size x b a hx hb ha j (by omega)
  have z2 := okRows_cat hb j (by omega)
  have z3 := okRows_cat ha j (by omega)
  have l1 := (hb.2 j (by omega)).1
  have l2 := (ha.2 j (by omega)).1
  have e1 : sha_Sum.f (stepN x b a j) = some (sumS (stepN x b a j)) := if_pos (by show _ ≤ 1099511627776; omega)
  have ew : IntKind.u64.wrap (IntKind.u64.wrap (j : Int) + 1) = ((j + 1 : Nat) : Int) := by rw [wrap_nat j (by omega), show ((j : Int) + 1) = ((j + 1 : Nat) : Int) from by omega, wrap_nat (j + 1) (by omega)]
  have e2 : codec_Number.f ((j + 1 : Nat) : Int) = some (numS (j + 1)) := by unfold codec_Number.f; rw [if_pos ⟨by omega, by omega⟩, Int.toNat_natCast]
  have e3 : strings_Join.f (b.getD j []) (⟨#[]⟩ : ByteArray) = some (catS (b.getD j [])) := if_pos ⟨by omega, by omega, rfl⟩
  have e4 : strings_Join.f (a.getD j []) (⟨#[]⟩ : ByteArray) = some (catS (a.getD j [])) := if_pos ⟨by omega, by omega, rfl⟩
  have zn : (numS (j + 1)).size = 8 := numS_size _
  have z0 : (⟨#[2]⟩ : ByteArray).size = 1 := rfl
  have zs : (sumS (stepN x b a j)).size = 32 := sumS_size _
  refine Ev.step (fun k => ?_) h
  have hbl := hb.1
  have hal := ha.1
  rw [proof_Steps.l0, if_pos (by omega), if_pos (by omega), if_pos (by rw [hlen]; omega), steps_rd x b a j (j + 1) (by omega), e1, qv, ew, e2, qv, if_pos (by omega), if_pos (by omega), rd_rows, e3, qv,
   if_pos (by rw [ByteArray.size_append]; omega), if_pos (by rw [ByteArray.size_append, ByteArray.size_append]; omega), if_pos (by omega), rd_rows, e4, qv, if_pos (by rw [ByteArray.size_append, ByteArray.size_append, ByteArray.size_append]; omega), if_pos (by rw [hlen]; omega), step_text, range_next]
  rw [show wrap64 ((j : Int) + 1) = ((j + 1 : Nat) : Int) from SkipPure.w_succ j 8 (by omega) (by omega)]
theorem join_two (x : S46) (h0 : 0 ≤ x.f0) (h1 : x.f0 < 18446744073709551616) (hs : x.f1.size ≤ 4096) : codec_Join.f [(⟨false, x.f0, ⟨#[]⟩⟩ : S115), ⟨true, 0, x.f1⟩] = some (numS x.f0.toNat ++ textS x.f1, 0) := by
 have hk : okB [(⟨false, x.f0, ⟨#[]⟩⟩ : S115), ⟨true, 0, x.f1⟩] = true := by
  unfold okB
  simp only [List.all_cons, List.all_nil, Bool.and_true, Bool.and_eq_true, decide_eq_true_eq]
  exact ⟨⟨⟨by decide, h0⟩, h1⟩, ⟨hs, by decide⟩, by decide⟩
 have e2 : catS [numS x.f0.toNat, textS x.f1] = numS x.f0.toNat ++ textS x.f1 := by
  show numS x.f0.toNat ++ catS [textS x.f1] = _
  rw [cat_one]
 unfold codec_Join.f
 rw [if_pos ⟨show 2 ≤ 1000000 by decide, hk⟩, ← e2]
 rfl
theorem may_ok {v : ByteArray} {b a : Rows} (h : mayN v b a = 0) : v.size ≤ 64 ∧ okRows b ∧ okRows a := by
 unfold mayN at h
 split at h
 ·cases h
 ·rename_i g
  split at h
  ·cases h
  ·rename_i g2
   have hb : b.length = 8 := Decidable.byContradiction fun c => g2 (.inl c)
   have ha : a.length = 8 := Decidable.byContradiction fun c => g2 (.inr (.inl c))
   have ob : oddRs b = false := by
    cases h : oddRs b
    ·rfl
    ·exact absurd (.inr (.inr (.inl h))) g2
   have oa : oddRs a = false := by
    cases h : oddRs a
    ·rfl
    ·exact absurd (.inr (.inr (.inr h))) g2
   exact ⟨by omega, okRows_of hb ob, okRows_of ha oa⟩
def stepsR (x : S46) (b a : Rows) : List ByteArray × Int := if mayN x.f1 b a = 0 then (stepsL x b a, 0) else ([], mayN x.f1 b a)
theorem steps_ev (x : S46) (b a : Rows) (h0 : 0 ≤ x.f0) (h1 : x.f0 < 18446744073709551616) (hb : b.length ≤ 1000000) (ha : a.length ≤ 1000000) : Ev (fun k => proof_Steps.f k x.f0 x.f1 b a) (stepsR x b a) := by
 have e1 : proof_may.f x.f0 x.f1 b a = some (mayN x.f1 b a) := if_pos ⟨hb, ha⟩
 unfold proof_Steps.f stepsR
 simp only [e1, qv]
 by_cases g : mayN x.f1 b a = 0
 rotate_left
 ·rw [if_neg g]
  simp only [if_neg g]
  exact Ev.now _
 rw [if_pos g]
 simp only [if_pos g]
 obtain ⟨q1, q2, q3⟩ := may_ok g
 have e2 := join_two x h0 h1 (by omega)
 have e3 : (⟨#[0]⟩ : ByteArray) ++ (numS x.f0.toNat ++ textS x.f1) = itemT x := by
  unfold itemT
  rw [ByteArray.append_assoc]
  rfl
 have zt : (numS x.f0.toNat ++ textS x.f1).size ≤ 100 := by rw [ByteArray.size_append, numS_size, textS_size]; omega
 refine Ev.congr (fun k => ?_) (steps_l0 x b a q1 q2 q3 8 0 rfl)
 rw [e2, qv]
 show (if 1 + (numS x.f0.toNat ++ textS x.f1).size ≤ _ then _ else _) = _
 rw [if_pos (by omega), e3]
 rfl
theorem check_ev (rt : ByteArray) (x : S46) (b a : Rows) (h0 : 0 ≤ x.f0) (h1 : x.f0 < 18446744073709551616) (hb : b.length ≤ 1000000) (ha : a.length ≤ 1000000) :
  Ev (fun k => proof_Check.f k rt x.f0 x.f1 b a) (if mayN x.f1 b a = 0 then ((sumS (stepN x b a 8)).toList == rt.toList, 0) else (false, mayN x.f1 b a)) := by
 unfold proof_Check.f
 refine Ev.bind (steps_ev x b a h0 h1 hb ha) ?_
 unfold stepsR
 by_cases g : mayN x.f1 b a = 0
 ·obtain ⟨q1, q2, q3⟩ := may_ok g
  have hl : (stepsL x b a).length = 9 := by unfold stepsL; simp
  have z1 := stepN_size x b a q1 q2 q3 8 (by omega)
  have e1 : sha_Sum.f (stepN x b a 8) = some (sumS (stepN x b a 8)) := if_pos (by show _ ≤ 1099511627776; omega)
  have ew : wrap64 (((stepsL x b a).length : Int) - 1) = ((8 : Nat) : Int) := by rw [hl]; first | rfl | (unfold wrap64; rfl) | (unfold wrap64; omega) | (unfold wrap64; simp)
  have er := steps_rd x b a 8 9 (by omega)
  rw [if_pos g, if_pos g]
  refine Ev.congr (fun k => ?_) (Ev.now _)
  show (if (0 : Int) = 0 then _ else _) = _
  rw [if_pos rfl]
  show (if 0 ≤ wrap64 (((stepsL x b a).length : Int) - 1) then _ else _) = _
  rw [ew, hl, if_pos (by decide), if_pos (by decide)]
  show (sha_Sum.f (rdOf ByteArray.empty (stepsL x b a) ((8 : Nat) : Int))).bind _ = _
  unfold stepsL
  rw [er, e1]
  rfl
 ·rw [if_neg g, if_neg g]
  refine Ev.congr (fun k => ?_) (Ev.now _)
  rw [if_neg g]
end Go.Proofs.YtolbhliepkcihaaDoor.ProofPure
end
section
namespace Go.Proofs.YtolbhliepkcihaaDoor.ProofPure
open Go.RowKit YtolbhliepkcihaaDoorW.PrintWords Kinds Build Lab Sha Mac Codec Tower SkipOps SkipPure
end Go.Proofs.YtolbhliepkcihaaDoor.ProofPure
end
section
namespace Go.Proofs.YtolbhliepkcihaaDoor.ProofPure
open Go.RowKit QPA YtolbhliepkcihaaDoorW.PrintWords Kinds Build Lab Sha Mac Codec Tower SkipOps SkipPure
def rowsB (b : Rows) : Bool := !oddRs b && decide (b.length = 8)
theorem rows_l0 (b : Rows) (hn : b.length ≤ 1000) (d : Nat) : ∀ i, i + d = b.length → oddRs (b.take i) = false → Ev (fun k => saltusref18_rows.l0 k b b (b.length : Int) (i : Int)) (rowsB b) := by
 induction d with
 | zero =>
  intro i hi ho
  rw [List.take_of_length_le (by omega)] at ho
  have e : rowsB b = ((b.length : Int) == 8) := by
   unfold rowsB
   rw [ho]
   by_cases c : b.length = 8
   ·rw [qj c, beq_iff_eq.2 (show (b.length : Int) = 8 by omega)]; rfl
   ·rw [decide_eq_false c, beq_eq_false_iff_ne.2 (show (b.length : Int) ≠ 8 by omega)]; rfl
  rw [e]
  refine Ev.step (fun k => ?_) (Ev.now _)
  rw [saltusref18_rows.l0, if_neg (by omega)]
 | succ d ih =>
  intro i hi ho
  have hlt : i < b.length := by omega
  have er : rd_L1 b (i : Int) = b[i] := by
   unfold rd_L1
   rw [Int.toNat_natCast, List.getD_eq_getElem?_getD, List.getElem?_eq_getElem hlt]
   rfl
  have hs := oddRs_snoc b i hlt
  have ebad : oddR b[i] = true → rowsB b = false := fun h => by unfold rowsB; rw [oddRs_take b i hlt h]; rfl
  by_cases c : 64 < b[i].length
  ·have h1 : oddR b[i] = true := by unfold oddR; rw [qj c]; rfl
   rw [ebad h1]
   refine Ev.step (fun k => ?_) (Ev.now _)
   rw [saltusref18_rows.l0, if_pos (by omega), if_pos (by omega), if_pos (by omega), er, if_pos (by omega)]
  ·have eL : saltusref17_Labels.f b[i] = some (!odds b[i]) := if_pos (by omega)
   have h1 : oddR b[i] = odds b[i] := by unfold oddR; rw [decide_eq_false c]; rfl
   cases ho2 : odds b[i] with
   | true =>
    rw [ho2] at h1 eL
    rw [ebad h1]
    refine Ev.step (fun k => ?_) (Ev.now _)
    rw [saltusref18_rows.l0, if_pos (by omega), if_pos (by omega), if_pos (by omega), er, if_neg (by omega), eL]
    rfl
   | false =>
    rw [ho2] at h1 eL
    refine Ev.step (fun k => ?_) (ih (i + 1) (by omega) (by rw [hs, ho, h1]; rfl))
    rw [saltusref18_rows.l0, if_pos (by omega), if_pos (by omega), if_pos (by omega), er, if_neg (by omega), eL, qv, if_pos (show (!false) = true from rfl), SkipPure.w_succ i b.length (by omega) (by omega)]
theorem rows_ev (b : Rows) (hn : b.length ≤ 1000) : Ev (fun k => saltusref18_rows.f k b) (rowsB b) := rows_l0 b hn b.length 0 (by omega) rfl
theorem why_ev (x : S46) (b a : Rows) (hb : b.length ≤ 1000) (ha : a.length ≤ 1000) : Ev (fun k => saltusref18_Why.f k x.f0 x.f1 b a) (mayN x.f1 b a) := by
 unfold saltusref18_Why.f mayN
 by_cases g : 64 < x.f1.size
 ·rw [if_pos g]
  exact Ev.congr (fun k => if_pos (by omega)) (Ev.now _)
 ·rw [if_neg g]
  refine Ev.congr (fun k => if_neg (by omega)) (Ev.bind (rows_ev b hb) ?_)
  have hgood : rowsB b = true → b.length = 8 ∧ oddRs b = false := fun h => by
   unfold rowsB at h
   rw [Bool.and_eq_true] at h
   exact ⟨qe h.2, by simpa using h.1⟩
  have hgood2 : rowsB a = true → a.length = 8 ∧ oddRs a = false := fun h => by
   unfold rowsB at h
   rw [Bool.and_eq_true] at h
   exact ⟨qe h.2, by simpa using h.1⟩
  have hbad : ∀ c : Rows, rowsB c = false → c.length ≠ 8 ∨ oddRs c = true := fun c h => by
   unfold rowsB at h
   by_cases q : c.length = 8
   ·rw [qj q, Bool.and_true] at h
    exact .inr (by simpa using h)
   ·exact .inl q
  cases g1 : rowsB b with
  | true =>
   have q1 := hgood g1
   refine Ev.congr (fun k => if_pos rfl) (Ev.bind (rows_ev a ha) ?_)
   cases g2 : rowsB a with
   | true =>
    have q2 := hgood2 g2
    have hn : ¬(b.length ≠ 8 ∨ a.length ≠ 8 ∨ oddRs b = true ∨ oddRs a = true) := by
     rintro (h | h | h | h)
     ·exact h q1.1
     ·exact h q2.1
     ·rw [q1.2] at h; cases h
     ·rw [q2.2] at h; cases h
    rw [show (if b.length ≠ 8 ∨ a.length ≠ 8 ∨ oddRs b = true ∨ oddRs a = true then (1 : Int) else 0) = 0 from if_neg hn]
    exact Ev.now _
   | false =>
    rw [show (if b.length ≠ 8 ∨ a.length ≠ 8 ∨ oddRs b = true ∨ oddRs a = true then (1 : Int) else 0) = 1 from if_pos ((hbad a g2).elim (fun h => .inr (.inl h)) (fun h => .inr (.inr (.inr h))))]
    exact Ev.now _
  | false =>
   rw [show (if b.length ≠ 8 ∨ a.length ≠ 8 ∨ oddRs b = true ∨ oddRs a = true then (1 : Int) else 0) = 1 from if_pos ((hbad b g1).elim (fun h => .inl h) (fun h => .inr (.inr (.inl h))))]
   exact Ev.now _
theorem pitem_f (x : S46) (h0 : 0 ≤ x.f0) (h1 : x.f0 < 18446744073709551616) (hs : x.f1.size ≤ 4096) : saltusref17_Item.f x.f0 x.f1 = some (itemT x) := item_f x h0 h1 hs
theorem refsteps_l0 (x : S46) (b a : Rows) (hx : x.f1.size ≤ 64) (hb : okRows b) (ha : okRows a) (d : Nat) : ∀ j, j + d = 8 → Ev (fun k => saltusref18_Steps.l0 k ((List.range (j + 1)).map (stepN x b a)) (j : Int) b a) (stepsL x b a) := by
 induction d with
 | zero =>
  intro j hj
  obtain rfl : j = 8 := by omega
  refine Ev.step (fun k => ?_) (Ev.now _)
  rw [saltusref18_Steps.l0, if_neg (by decide)]
  rfl
 | succ d ih =>
  intro j hj
  have h := ih (j + 1) (by omega)
  have hlen : ((List.range (j + 1)).map (stepN x b a)).length = j + 1 := by simp
  have z1 := stepN_size x b a hx hb ha j (by omega)
  have z2 := okRows_cat hb j (by omega)
  have z3 := okRows_cat ha j (by omega)
  have l1 := (hb.2 j (by omega)).1
  have l2 := (ha.2 j (by omega)).1
  have e1 : saltusref03_Sum.f (stepN x b a j) = some (sumS (stepN x b a j)) := if_pos (by show _ ≤ 1099511627776; omega)
  have ew : wrap64 ((j : Int) + 1) = ((j + 1 : Nat) : Int) := SkipPure.w_succ j 8 (by omega) (by omega)
  have e2 : saltusref17_Text.f ((j + 1 : Nat) : Int) (([] : List ByteArray) ++ b.getD j [] ++ [sumS (stepN x b a j)] ++ a.getD j []) = some (stepN x b a (j + 1)) := by
   unfold saltusref17_Text.f
   rw [if_pos ⟨by omega, by omega, by simp only [List.length_append, List.length_nil, List.length_singleton]; omega, by rw [cat_app, cat_app, cat_app, cat_one, ByteArray.size_append, ByteArray.size_append, ByteArray.size_append, sumS_size]; show 0 + _ + _ + _ ≤ _; omega⟩, Int.toNat_natCast, List.nil_append]
   rfl
  have hbl := hb.1
  have hal := ha.1
  refine Ev.step (fun k => ?_) h
  rw [saltusref18_Steps.l0, if_pos (by omega), qv, if_pos (by omega), if_pos (by omega), rd_rows, if_pos (by rw [List.length_nil]; omega), qv, if_pos (by rw [hlen]; omega), steps_rd x b a j (j + 1) (by omega), e1, qv,
   if_pos (by rw [List.length_append, List.length_nil]; omega), qv, if_pos (by omega), rd_rows, if_pos (by simp only [List.length_append, List.length_nil, List.length_singleton]; omega), ew, e2, qv, if_pos (by rw [hlen]; omega), range_next]
theorem refsteps_ev (x : S46) (b a : Rows) (h0 : 0 ≤ x.f0) (h1 : x.f0 < 18446744073709551616) (g : mayN x.f1 b a = 0) : Ev (fun k => saltusref18_Steps.f k x.f0 x.f1 b a) (stepsL x b a) := by
 obtain ⟨q1, q2, q3⟩ := may_ok g
 have e := pitem_f x h0 h1 (by omega)
 unfold saltusref18_Steps.f
 simp only [e, qv]
 exact refsteps_l0 x b a q1 q2 q3 8 0 rfl
def cut40 (s : ByteArray) : ByteArray := s.extract 0 (min s.size 40)
def cutRow (r : List ByteArray) : List ByteArray := (r.take (min r.length 66)).map cut40
def cutR (l : Rows) : Rows := (l.take (min l.length 9)).map cutRow
theorem cut_l1 (y : Rows) (acc : Rows) (i : Nat) (x : List ByteArray) (hx : x.length ≤ 66) (hacc : acc.length ≤ 100) (R : Rows)
  (hk : Ev (fun k => saltuslaw18_cut.l0 k (acc ++ [x.map cut40]) y (y.length : Int) (wrap64 ((i : Int) + 1))) R) (d : Nat) : ∀ j o, j + d = x.length → o = (x.take j).map cut40 →
  Ev (fun k => saltuslaw18_cut.l1 k acc o y (y.length : Int) (i : Int) x (x.length : Int) (j : Int)) R := by
 induction d with
 | zero =>
  intro j o hj ho
  rw [List.take_of_length_le (by omega)] at ho
  subst ho
  refine Ev.step (fun k => ?_) hk
  rw [saltuslaw18_cut.l1, if_neg (by omega), if_pos (by omega)]
 | succ d ih =>
  intro j o hj ho
  have hlt : j < x.length := by omega
  have hrd : rdOf ByteArray.empty x (j : Int) = x[j] := by
   unfold rdOf
   rw [Int.toNat_natCast, List.getD_eq_getElem?_getD, List.getElem?_eq_getElem hlt]
   rfl
  have e40 := mn_nat x[j].size 40
  rw [show ((40 : Nat) : Int) = 40 from rfl] at e40
  have hmin : min x[j].size 40 ≤ x[j].size := Nat.min_le_left _ _
  have hol : o.length = j := by rw [ho, List.length_map, qw]; omega
  have h := ih (j + 1) (o ++ [cut40 x[j]]) (by omega) (by rw [ho, List.take_succ_eq_append_getElem hlt, List.map_append]; rfl)
  refine Ev.step (fun k => ?_) h
  rw [saltuslaw18_cut.l1, if_pos (by omega), if_pos (by omega), if_pos (by omega), hrd, e40, if_pos (by omega), if_pos (by omega), if_pos (by omega), Int.toNat_natCast, SkipPure.w_succ j x.length (by omega) (by omega)]
  rfl
theorem cut_l0 (y : Rows) (hy : y.length ≤ 9) (d : Nat) : ∀ i acc, i + d = y.length → acc = (y.take i).map cutRow → Ev (fun k => saltuslaw18_cut.l0 k acc y (y.length : Int) (i : Int)) (y.map cutRow) := by
 induction d with
 | zero =>
  intro i acc hi ho
  rw [List.take_of_length_le (by omega)] at ho
  subst ho
  refine Ev.step (fun k => ?_) (Ev.now _)
  rw [saltuslaw18_cut.l0, if_neg (by omega)]
 | succ d ih =>
  intro i acc hi ho
  have hlt : i < y.length := by omega
  have er : rd_L1 y (i : Int) = y[i] := by
   unfold rd_L1
   rw [Int.toNat_natCast, List.getD_eq_getElem?_getD, List.getElem?_eq_getElem hlt]
   rfl
  have e66 := mn_nat y[i].length 66
  rw [show ((66 : Nat) : Int) = 66 from rfl] at e66
  have hmin : min y[i].length 66 ≤ y[i].length := Nat.min_le_left _ _
  have hal : acc.length = i := by rw [ho, List.length_map, qw]; omega
  have h := ih (i + 1) (acc ++ [cutRow y[i]]) (by omega) (by rw [ho, List.take_succ_eq_append_getElem hlt, List.map_append]; rfl)
  have hw : wrap64 ((i : Int) + 1) = ((i + 1 : Nat) : Int) := SkipPure.w_succ i y.length (by omega) (by omega)
  rw [← hw] at h
  have h1 := cut_l1 y acc i (y[i].take (min y[i].length 66)) (by rw [qw]; omega) (by omega) _ h (y[i].take (min y[i].length 66)).length 0 [] (by omega) rfl
  refine Ev.step (fun k => ?_) h1
  rw [saltuslaw18_cut.l0, if_pos (by omega), if_pos (by omega), if_pos (by omega), er, e66, if_pos (by omega), if_pos (by omega), Int.toNat_natCast]
  rfl
theorem cut_ev (l : Rows) : Ev (fun k => saltuslaw18_cut.f k l) (cutR l) := by
 have e9 := mn_nat l.length 9
 rw [show ((9 : Nat) : Int) = 9 from rfl] at e9
 have h := cut_l0 (l.take (min l.length 9)) (by rw [qw]; omega) (l.take (min l.length 9)).length 0 [] (by omega) rfl
 have h2 : min l.length 9 ≤ l.length := Nat.min_le_left _ _
 refine Ev.congr (fun k => ?_) h
 unfold saltuslaw18_cut.f
 rw [e9, if_pos (by omega), if_pos (by omega), Int.toNat_natCast, qv]
 rfl
theorem few_ev (b a : Rows) : Ev (fun k => saltuslaw18_few.f k b a) (cutR b, cutR a) := by
 unfold saltuslaw18_few.f
 exact Ev.bind (cut_ev b) (Ev.bind (cut_ev a) (Ev.now _))
theorem cutR_len (l : Rows) : (cutR l).length ≤ 9 := by unfold cutR; rw [List.length_map, qw]; omega
end Go.Proofs.YtolbhliepkcihaaDoor.ProofPure
end
section
namespace Go.Proofs.YtolbhliepkcihaaDoor
open Go.RowKit YtolbhliepkcihaaDoorW.PrintWords Kinds Build Lab Sha Mac Codec Tower SkipOps SkipPure ProofPure
def domP (a0 : Int) (b a : ProofPure.Rows) : Bool := decide (0 ≤ a0) && decide (a0 < 18446744073709551616) && decide (b.length ≤ 1000) && decide (a.length ≤ 1000)
theorem domP_of {a0 : Int} {b a : ProofPure.Rows} (h : domP a0 b a = true) : 0 ≤ a0 ∧ a0 < 18446744073709551616 ∧ b.length ≤ 1000 ∧ a.length ≤ 1000 := by
 unfold domP at h
 simp only [Bool.and_eq_true, decide_eq_true_eq] at h
 exact ⟨h.1.1.1, h.1.1.2, h.1.2, h.2⟩
def proof_Steps.f (a0_0 : Int) (a0_1 : ByteArray) (l1_0 l1_1 : ProofPure.Rows) : Option (List ByteArray × Int) := if domP a0_0 l1_0 l1_1 = true then some (stepsR ⟨a0_0, a0_1⟩ l1_0 l1_1) else none
theorem proof_Steps.calls (a0_0 : Int) (a0_1 : ByteArray) (A1_0 : Option Addr) (c1_0 : Nat) (l1_0 : List (List ByteArray)) (A1_1 : Option Addr) (c1_1 : Nat) (l1_1 : List (List ByteArray)) (r1 : List ByteArray) (r2 : Int) (w : World) (hr1_0 : Kd.C (Kd.slice 9 Kd.string) w A1_0 l1_0.length l1_0) (hc1_0 : l1_0.length ≤ c1_0) (hr1_1 : Kd.C (Kd.slice 9 Kd.string) w A1_1 l1_1.length l1_1) (hc1_1 : l1_1.length ≤ c1_1) (h : proof_Steps.f a0_0 a0_1 l1_0 l1_1 = some (r1, r2)) :
  Calls Tryd.prog 53 #[.agg #[.int .u64 a0_0, .string a0_1], .agg #[.slice A1_0 l1_0.length c1_0, .slice A1_1 l1_1.length c1_1]] w fun e w' => ∃ v0_ : Value, e = .returned (.tuple #[v0_, .int .i64 r2]) ∧ Kd.R Kd.string 9 w' w.heap.size (fun _ => True) v0_ r1 ∧ Below w.heap.size w w' := by
 unfold proof_Steps.f at h
 split at h
 ·rename_i hd
  obtain ⟨h1, h2, h3, h4⟩ := domP_of hd
  obtain ⟨k, hk⟩ := (steps_ev ⟨a0_0, a0_1⟩ l1_0 l1_1 h1 h2 (by omega) (by omega)).rounds
  exact QPA.proof_Steps.calls k a0_0 a0_1 A1_0 c1_0 l1_0 A1_1 c1_1 l1_1 r1 r2 w hr1_0 hc1_0 hr1_1 hc1_1 (hk.trans h)
 ·cases h
def proof_Check.f (a0 : ByteArray) (a1_0 : Int) (a1_1 : ByteArray) (l2_0 l2_1 : ProofPure.Rows) : Option (Bool × Int) := if domP a1_0 l2_0 l2_1 = true then some (if mayN a1_1 l2_0 l2_1 = 0 then ((sumS (stepN ⟨a1_0, a1_1⟩ l2_0 l2_1 8)).toList == a0.toList, 0) else (false, mayN a1_1 l2_0 l2_1)) else none
theorem proof_Check.calls (a0 : ByteArray) (a1_0 : Int) (a1_1 : ByteArray) (A2_0 : Option Addr) (c2_0 : Nat) (l2_0 : List (List ByteArray)) (A2_1 : Option Addr) (c2_1 : Nat) (l2_1 : List (List ByteArray)) (r1 : Bool) (r2 : Int) (w : World) (hr2_0 : Kd.C (Kd.slice 9 Kd.string) w A2_0 l2_0.length l2_0) (hc2_0 : l2_0.length ≤ c2_0) (hr2_1 : Kd.C (Kd.slice 9 Kd.string) w A2_1 l2_1.length l2_1) (hc2_1 : l2_1.length ≤ c2_1) (h : proof_Check.f a0 a1_0 a1_1 l2_0 l2_1 = some (r1, r2)) :
  Calls Tryd.prog 54 #[.string a0, .agg #[.int .u64 a1_0, .string a1_1], .agg #[.slice A2_0 l2_0.length c2_0, .slice A2_1 l2_1.length c2_1]] w fun e w' => e = .returned (.tuple #[.bool r1, .int .i64 r2]) ∧ Below w.heap.size w w' := by
 unfold proof_Check.f at h
 split at h
 ·rename_i hd
  obtain ⟨h1, h2, h3, h4⟩ := domP_of hd
  obtain ⟨k, hk⟩ := (check_ev a0 ⟨a1_0, a1_1⟩ l2_0 l2_1 h1 h2 (by omega) (by omega)).rounds
  exact QPA.proof_Check.calls k a0 a1_0 a1_1 A2_0 c2_0 l2_0 A2_1 c2_1 l2_1 r1 r2 w hr2_0 hc2_0 hr2_1 hc2_1 (hk.trans h)
 ·cases h
def saltusref18_Why.f (a0_0 : Int) (a0_1 : ByteArray) (l1_0 l1_1 : ProofPure.Rows) : Option Int := if domP a0_0 l1_0 l1_1 = true then some (mayN a0_1 l1_0 l1_1) else none
theorem saltusref18_Why.calls (a0_0 : Int) (a0_1 : ByteArray) (A1_0 : Option Addr) (c1_0 : Nat) (l1_0 : List (List ByteArray)) (A1_1 : Option Addr) (c1_1 : Nat) (l1_1 : List (List ByteArray)) (r : Int) (w : World) (hr1_0 : Kd.C (Kd.slice 9 Kd.string) w A1_0 l1_0.length l1_0) (hc1_0 : l1_0.length ≤ c1_0) (hr1_1 : Kd.C (Kd.slice 9 Kd.string) w A1_1 l1_1.length l1_1) (hc1_1 : l1_1.length ≤ c1_1) (h : saltusref18_Why.f a0_0 a0_1 l1_0 l1_1 = some r) :
  Calls Tryd.prog 55 #[.agg #[.int .u64 a0_0, .string a0_1], .agg #[.slice A1_0 l1_0.length c1_0, .slice A1_1 l1_1.length c1_1]] w fun e w' => e = .returned (.int .i64 r) ∧ Below w.heap.size w w' := by
 unfold saltusref18_Why.f at h
 split at h
 ·rename_i hd
  obtain ⟨h1, h2, h3, h4⟩ := domP_of hd
  obtain ⟨k, hk⟩ := (why_ev ⟨a0_0, a0_1⟩ l1_0 l1_1 h3 h4).rounds
  exact QPA.saltusref18_Why.calls k a0_0 a0_1 A1_0 c1_0 l1_0 A1_1 c1_1 l1_1 r w hr1_0 hc1_0 hr1_1 hc1_1 (hk.trans h)
 ·cases h
def saltusref18_Steps.f (a0_0 : Int) (a0_1 : ByteArray) (l1_0 l1_1 : ProofPure.Rows) : Option (List ByteArray) := if domP a0_0 l1_0 l1_1 = true ∧ mayN a0_1 l1_0 l1_1 = 0 then some (stepsL ⟨a0_0, a0_1⟩ l1_0 l1_1) else none
theorem saltusref18_Steps.calls (a0_0 : Int) (a0_1 : ByteArray) (A1_0 : Option Addr) (c1_0 : Nat) (l1_0 : List (List ByteArray)) (A1_1 : Option Addr) (c1_1 : Nat) (l1_1 : List (List ByteArray)) (r : List ByteArray) (w : World) (hr1_0 : Kd.C (Kd.slice 9 Kd.string) w A1_0 l1_0.length l1_0) (hc1_0 : l1_0.length ≤ c1_0) (hr1_1 : Kd.C (Kd.slice 9 Kd.string) w A1_1 l1_1.length l1_1) (hc1_1 : l1_1.length ≤ c1_1) (h : saltusref18_Steps.f a0_0 a0_1 l1_0 l1_1 = some r) :
  Calls Tryd.prog 57 #[.agg #[.int .u64 a0_0, .string a0_1], .agg #[.slice A1_0 l1_0.length c1_0, .slice A1_1 l1_1.length c1_1]] w fun e w' => ∃ v0_ : Value, e = .returned (v0_) ∧ Kd.R Kd.string 9 w' w.heap.size (fun _ => True) v0_ r ∧ Below w.heap.size w w' := by
 unfold saltusref18_Steps.f at h
 split at h
 ·rename_i hd
  obtain ⟨h1, h2, h3, h4⟩ := domP_of hd.1
  obtain ⟨k, hk⟩ := (refsteps_ev ⟨a0_0, a0_1⟩ l1_0 l1_1 h1 h2 hd.2).rounds
  exact QPA.saltusref18_Steps.calls k a0_0 a0_1 A1_0 c1_0 l1_0 A1_1 c1_1 l1_1 r w hr1_0 hc1_0 hr1_1 hc1_1 (hk.trans h)
 ·cases h
def saltuslaw18_few.f (l0_0 l0_1 : ProofPure.Rows) : Option (ProofPure.Rows × ProofPure.Rows) := some (cutR l0_0, cutR l0_1)
theorem saltuslaw18_few.calls (A0_0 : Option Addr) (c0_0 : Nat) (l0_0 : List (List ByteArray)) (A0_1 : Option Addr) (c0_1 : Nat) (l0_1 : List (List ByteArray)) (r1 : List (List ByteArray)) (r2 : List (List ByteArray)) (w : World) (hr0_0 : Kd.C (Kd.slice 9 Kd.string) w A0_0 l0_0.length l0_0) (hc0_0 : l0_0.length ≤ c0_0) (hr0_1 : Kd.C (Kd.slice 9 Kd.string) w A0_1 l0_1.length l0_1) (hc0_1 : l0_1.length ≤ c0_1) (h : saltuslaw18_few.f l0_0 l0_1 = some (r1, r2)) :
  Calls Tryd.prog 52 #[.agg #[.slice A0_0 l0_0.length c0_0, .slice A0_1 l0_1.length c0_1]] w fun e w' => ∃ v0_ v1_ : Value, e = .returned (.agg #[v0_, v1_]) ∧ Kd.S (Kd.slice 9 Kd.string) 49 w' w.heap.size (fun k_ => some k_ ≠ (v1_ : Value).ownBlock) v0_ r1 ∧ Kd.S (Kd.slice 9 Kd.string) 49 w' w.heap.size (fun k_ => some k_ ≠ (v0_ : Value).ownBlock) v1_ r2 ∧ Below w.heap.size w w' := by
 obtain ⟨k, hk⟩ := (few_ev l0_0 l0_1).rounds
 exact QPA.saltuslaw18_few.calls k A0_0 c0_0 l0_0 A0_1 c0_1 l0_1 r1 r2 w hr0_0 hc0_0 hr0_1 hc0_1 (hk.trans h)
end Go.Proofs.YtolbhliepkcihaaDoor
end
section
namespace Go.Proofs.YtolbhliepkcihaaDoor.ProofPure
open Go.RowKit QPA YtolbhliepkcihaaDoorW.PrintWords Kinds Build Lab Sha Mac Codec Tower SkipOps SkipPure
end Go.Proofs.YtolbhliepkcihaaDoor.ProofPure
end
section
namespace Go.Proofs.YtolbhliepkcihaaDoor.ProofPure
open Go.RowKit YtolbhliepkcihaaDoorW.PrintWords Kinds Build Lab Sha Mac Codec Tower SkipOps SkipPure
abbrev Z := Nat × ByteArray
def pr (j : Nat) : List E → List Z
 | [] => []
 | y :: r => if j < y.h then (y.h, lab j (y :: r)) :: pr j r else pr j r
theorem pr_snd (j : Nat) : ∀ s : List E, (pr j s).map (·.2) = rowF (lab j) j s
 | [] => rfl
 | y :: r => by
  have ih := pr_snd j r
  by_cases c : j < y.h
  ·rw [pr, rowF, if_pos c, if_pos c, List.map_cons, ih]
  ·rw [pr, rowF, if_neg c, if_neg c, ih]
theorem pr_fst (j : Nat) : ∀ s : List E, (pr j s).map (·.1) = hts j s
 | [] => rfl
 | y :: r => by
  have ih := pr_fst j r
  unfold hts at ih ⊢
  by_cases c : j < y.h
  ·rw [pr, if_pos c, List.map_cons, ih, List.map_cons, List.filter_cons_of_pos (by simpa using c)]
  ·rw [pr, if_neg c, ih, List.map_cons, List.filter_cons_of_neg (by simpa using c)]
def low (t : Nat) (z : Z) : Bool := decide (z.1 ≤ t)
theorem more_pr (j : Nat) : ∀ s : List E, more (lab j) j s = ((pr j s).takeWhile (low (j + 1))).map (·.2)
 | [] => rfl
 | y :: r => by
  have ih := more_pr j r
  by_cases d : j + 1 < y.h
  ·rw [more, if_pos d, pr, if_pos (by omega), List.takeWhile_cons_of_neg (by unfold low; simp; omega)]
   rfl
  ·by_cases c : j < y.h
   ·rw [more, if_neg d, if_pos c, pr, if_pos c, List.takeWhile_cons_of_pos (by unfold low; simp; omega), List.map_cons, ih]
   ·rw [more, if_neg d, if_neg c, pr, if_neg c, ih]
def up (t : Nat) : List Z → List Z
 | [] => []
 | z :: r => if t < z.1 then (z.1, sumS (joinT t (z.2 :: (r.takeWhile (low t)).map (·.2)))) :: up t r else up t r
theorem pr_up (j : Nat) : ∀ s : List E, pr (j + 1) s = up (j + 1) (pr j s)
 | [] => rfl
 | y :: r => by
  have ih := pr_up j r
  by_cases d : j + 1 < y.h
  ·rw [pr, if_pos d, pr, if_pos (by omega), up, if_pos d, ih, ← more_pr]
   rfl
  ·by_cases c : j < y.h
   ·rw [pr, if_neg d, pr, if_pos c, up, if_neg d, ih]
   ·rw [pr, if_neg d, pr, if_neg c, ih]
def cnt (t : Nat) (u : List Z) : Nat := (u.filter fun z => decide (t < z.1)).length
theorem up_get (t : Nat) : ∀ (u : List Z) (f : Nat) (h : f < u.length), t < u[f].1 →
  (up t u)[cnt t (u.take f)]? = some (u[f].1, sumS (joinT t (u[f].2 :: ((u.drop (f + 1)).takeWhile (low t)).map (·.2))))
 | [], f, h, _ => absurd h (by simp)
 | z :: r, 0, h, hf => by
  have hz : t < z.1 := hf
  rw [up, if_pos hz]
  rfl
 | z :: r, f + 1, h, hf => by
  have hr : f < r.length := by simpa using h
  have ih := up_get t r f hr hf
  by_cases c : t < z.1
  ·have e : cnt t ((z :: r).take (f + 1)) = cnt t (r.take f) + 1 := by
    unfold cnt
    rw [List.take_succ_cons, List.filter_cons_of_pos (by simpa using c), List.length_cons]
   rw [up, if_pos c, e, List.getElem?_cons_succ]
   exact ih
  ·have e : cnt t ((z :: r).take (f + 1)) = cnt t (r.take f) := by
    unfold cnt
    rw [List.take_succ_cons, List.filter_cons_of_neg (by simpa using c)]
   rw [up, if_neg c, e]
   exact ih
def fromN (t : Nat) (u : List Z) : Nat → Nat
 | 0 => 0
 | i + 1 => if t < (u.getD (i + 1) (0, ⟨#[]⟩)).1 then i + 1 else fromN t u i
def toN (t : Nat) (u : List Z) : Nat → Nat → Nat
 | 0, i => i
 | d + 1, i => if t < (u.getD i (0, ⟨#[]⟩)).1 then i else toN t u d (i + 1)
def gD (u : List Z) (i : Nat) : Nat := (u.getD i (0, ⟨#[]⟩)).1
theorem from_spec (t : Nat) (u : List Z) (h0 : t < gD u 0) : ∀ i, fromN t u i ≤ i ∧ t < gD u (fromN t u i) ∧ ∀ k, fromN t u i < k → k ≤ i → gD u k ≤ t
 | 0 => ⟨Nat.le_refl _, h0, fun k h1 h2 => absurd h1 (by rw [fromN]; omega)⟩
 | i + 1 => by
  obtain ⟨h1, h2, h3⟩ := from_spec t u h0 i
  by_cases c : t < (u.getD (i + 1) (0, ⟨#[]⟩)).1
  ·rw [fromN, if_pos c]
   exact ⟨Nat.le_refl _, c, fun k q1 q2 => absurd q1 (by omega)⟩
  ·rw [fromN, if_neg c]
   refine ⟨by omega, h2, fun k q1 q2 => ?_⟩
   by_cases e : k = i + 1
   ·subst e
    unfold gD
    omega
   ·exact h3 k q1 (by omega)
theorem to_spec (t : Nat) (u : List Z) : ∀ d i, i + d = u.length → i ≤ toN t u d i ∧ toN t u d i ≤ u.length ∧ (∀ k, i ≤ k → k < toN t u d i → gD u k ≤ t) ∧ (toN t u d i = u.length ∨ t < gD u (toN t u d i))
 | 0, i, h => ⟨Nat.le_refl _, by rw [toN]; omega, fun k h1 h2 => absurd h2 (by rw [toN]; omega), .inl (by rw [toN]; omega)⟩
 | d + 1, i, h => by
  by_cases c : t < (u.getD i (0, ⟨#[]⟩)).1
  ·rw [toN, if_pos c]
   exact ⟨Nat.le_refl _, by omega, fun k q1 q2 => absurd q2 (by omega), .inr c⟩
  ·obtain ⟨h1, h2, h3, h4⟩ := to_spec t u d (i + 1) (by omega)
   rw [toN, if_neg c]
   refine ⟨by omega, h2, fun k q1 q2 => ?_, h4⟩
   by_cases e : k = i
   ·subst e
    unfold gD
    omega
   ·exact h3 k (by omega) q2
theorem gD_at (u : List Z) (i : Nat) (h : i < u.length) : gD u i = u[i].1 := by unfold gD; rw [List.getD_eq_getElem?_getD, List.getElem?_eq_getElem h]; rfl
theorem while_is (t : Nat) (u : List Z) (e : Nat) (he : e ≤ u.length) (hend : e = u.length ∨ t < gD u e) : ∀ d i, i + d = e → (∀ k, i ≤ k → k < e → gD u k ≤ t) → (u.drop i).takeWhile (low t) = (u.take e).drop i
 | 0, i, h, hk => by
  obtain rfl : i = e := by omega
  rw [List.drop_eq_nil_of_le (show (u.take i).length ≤ i by rw [qw]; omega)]
  rcases hend with h1 | h1
  ·rw [List.drop_eq_nil_of_le (by omega)]; rfl
  ·by_cases c : i < u.length
   ·rw [gD_at u i c] at h1
    rw [List.drop_eq_getElem_cons c, List.takeWhile_cons_of_neg (by unfold low; simp; omega)]
   ·rw [List.drop_eq_nil_of_le (by omega)]; rfl
 | d + 1, i, h, hk => by
  have c : i < u.length := by omega
  have ih := while_is t u e he hend d (i + 1) (by omega) (fun k q1 q2 => hk k (by omega) q2)
  have h1 := hk i (Nat.le_refl _) (by omega)
  rw [gD_at u i c] at h1
  have c2 : i < (u.take e).length := by rw [qw]; omega
  rw [List.drop_eq_getElem_cons c, List.takeWhile_cons_of_pos (by unfold low; simp; omega), ih, List.drop_eq_getElem_cons c2]
  congr 1
  exact (List.getElem_take ..).symm
def labs (u : List Z) : List ByteArray := u.map (·.2)
def befN (t : Nat) (u : List Z) (a : Nat) : List ByteArray := cutL (labs u) (fromN t u a, a)
def aftN (t : Nat) (u : List Z) (a : Nat) : List ByteArray := cutL (labs u) (a + 1, toN t u (u.length - (a + 1)) (a + 1))
theorem step_up (t : Nat) (u : List Z) (a : Nat) (ha : a < u.length) (h0 : t < gD u 0) :
  ∃ h, (up t u)[cnt t (u.take (fromN t u a))]? = some (h, sumS (joinT t (befN t u a ++ [u[a].2] ++ aftN t u a))) := by
 obtain ⟨f1, f2, f3⟩ := from_spec t u h0 a
 obtain ⟨t1, t2, t3, t4⟩ := to_spec t u (u.length - (a + 1)) (a + 1) (by omega)
 generalize hf : fromN t u a = f at *
 generalize ht : toN t u (u.length - (a + 1)) (a + 1) = e at *
 have hfl : f < u.length := by omega
 rw [gD_at u f hfl] at f2
 refine ⟨u[f].1, ?_⟩
 rw [up_get t u f hfl f2, while_is t u e t2 t4 (e - (f + 1)) (f + 1) (by omega) (fun k q1 q2 => by
  by_cases c : k ≤ a
  ·exact f3 k (by omega) c
  ·exact t3 k (by omega) q2)]
 congr 4
 unfold befN aftN cutL labs
 rw [hf, ht]
 show u[f].2 :: ((u.take e).drop (f + 1)).map (·.2) = _
 have hc : f < (u.take e).length := by rw [qw]; omega
 have e1 : u[f].2 :: ((u.take e).drop (f + 1)).map (·.2) = ((u.take e).drop f).map (·.2) := by
  rw [List.drop_eq_getElem_cons hc, List.map_cons]
  congr 1
  rw [List.getElem_take]
 rw [e1, ← List.map_take, ← List.map_take, ← List.map_drop, ← List.map_drop]
 have e2 : (u.take e).drop f = (u.take a).drop f ++ ([u[a]] ++ (u.take e).drop (a + 1)) := by
  have h1 : u.take e = u.take a ++ (u.take e).drop a := by
   have := (List.take_append_drop a (u.take e)).symm
   rwa [List.take_take, Nat.min_eq_left (by omega)] at this
  have h2 : (u.take e).drop a = [u[a]] ++ (u.take e).drop (a + 1) := by
   have ca : a < (u.take e).length := by rw [qw]; omega
   rw [List.drop_eq_getElem_cons ca, List.getElem_take]
   rfl
  rw [← h2]
  conv => lhs; rw [h1]
  rw [List.drop_append_of_le_length (by rw [qw]; omega)]
 rw [e2, List.map_append, List.map_append, List.append_assoc]
 rfl
end Go.Proofs.YtolbhliepkcihaaDoor.ProofPure
end
section
namespace Go.Proofs.YtolbhliepkcihaaDoor.ProofPure
open Go.RowKit YtolbhliepkcihaaDoorW.PrintWords Kinds Build Lab Sha Mac Codec Tower SkipOps SkipPure
def atN (es : List E) (a0 : Nat) : Nat → Nat
 | 0 => a0
 | j + 1 => cnt (j + 1) ((pr j es).take (fromN (j + 1) (pr j es) (atN es a0 j)))
def befR (es : List E) (a0 : Nat) : Rows := (List.range 8).map fun j => befN (j + 1) (pr j es) (atN es a0 j)
def aftR (es : List E) (a0 : Nat) : Rows := (List.range 8).map fun j => aftN (j + 1) (pr j es) (atN es a0 j)
theorem bef_at (es : List E) (a0 j : Nat) (h : j < 8) : (befR es a0).getD j [] = befN (j + 1) (pr j es) (atN es a0 j) := by
 unfold befR
 rw [List.getD_eq_getElem?_getD, List.getElem?_map, List.getElem?_range h]
 rfl
theorem aft_at (es : List E) (a0 j : Nat) (h : j < 8) : (aftR es a0).getD j [] = aftN (j + 1) (pr j es) (atN es a0 j) := by
 unfold aftR
 rw [List.getD_eq_getElem?_getD, List.getElem?_map, List.getElem?_range h]
 rfl
theorem pr_head (r : List E) (j : Nat) (h : j < 9) : gD (pr j (head :: r)) 0 = 9 := by
 rw [pr, if_pos (show j < head.h from h)]
 rfl
theorem labs_pr (j : Nat) (es : List E) : labs (pr j es) = rowF (lab j) j es := pr_snd j es
theorem pr_len (j : Nat) (es : List E) : (pr j es).length = (rowF (lab j) j es).length := by rw [← pr_snd, List.length_map]
theorem at_lt (r : List E) (a0 : Nat) (h0 : a0 < (pr 0 (head :: r)).length) : ∀ j, j ≤ 8 → atN (head :: r) a0 j < (pr j (head :: r)).length
 | 0, _ => h0
 | j + 1, hj => by
  have ih := at_lt r a0 h0 j (by omega)
  obtain ⟨h, e⟩ := step_up (j + 1) (pr j (head :: r)) (atN (head :: r) a0 j) ih (by rw [pr_head r j (by omega)]; omega)
  rw [← pr_up] at e
  exact (List.getElem?_eq_some_iff.1 e).1
theorem steps_at (x : S46) (r : List E) (a0 : Nat) (h0 : a0 < (pr 0 (head :: r)).length) (hx : ((pr 0 (head :: r))[a0]'h0).2 = sumS (itemT x)) : ∀ j, (hj : j ≤ 8) →
  sumS (stepN x (befR (head :: r) a0) (aftR (head :: r) a0) j) = ((pr j (head :: r))[atN (head :: r) a0 j]'(at_lt r a0 h0 j hj)).2
 | 0, _ => hx.symm
 | j + 1, hj => by
  have ih := steps_at x r a0 h0 hx j (by omega)
  obtain ⟨h, e⟩ := step_up (j + 1) (pr j (head :: r)) (atN (head :: r) a0 j) (at_lt r a0 h0 j (by omega)) (by rw [pr_head r j (by omega)]; omega)
  rw [← pr_up, ← ih] at e
  obtain ⟨q, e2⟩ := List.getElem?_eq_some_iff.1 e
  have e3 := congrArg Prod.snd e2
  show sumS (joinT (j + 1) _) = _
  rw [bef_at _ _ _ (by omega), aft_at _ _ _ (by omega)]
  exact e3.symm
theorem root_pr (key : ByteArray) (l : List S46) : labs (pr 8 (ents key l)) = [rootL key l] := by
 rw [labs_pr]
 exact rootL_row key l
theorem pr_item (key : ByteArray) (l : List S46) (i : Nat) (h : i < l.length) : ∃ q : i + 1 < (pr 0 (ents key l)).length, ((pr 0 (ents key l))[i + 1]).2 = sumS (itemT l[i]) := by
 have e := labs_pr 0 (ents key l)
 rw [← labs_row] at e
 have hl : (pr 0 (ents key l)).length = l.length + 1 := by
  have := congrArg List.length e
  unfold labs at this
  rw [List.length_map, labs_len] at this
  exact this
 refine ⟨by omega, ?_⟩
 have e2 : (labs (pr 0 (ents key l)))[i + 1]? = some (sumS (itemT l[i])) := by
  rw [e]
  unfold labs0 ents
  rw [List.map_cons, List.getElem?_cons_succ, List.getElem?_map, List.getElem?_map, List.getElem?_eq_getElem h]
  rfl
 unfold labs at e2
 rw [List.getElem?_map, List.getElem?_eq_getElem (by omega)] at e2
 exact Option.some.inj e2
theorem prove_root (key : ByteArray) (l : List S46) (i : Nat) (h : i < l.length) : sumS (stepN l[i] (befR (ents key l) (i + 1)) (aftR (ents key l) (i + 1)) 8) = rootL key l := by
 obtain ⟨q, hx⟩ := pr_item key l i h
 have e := steps_at l[i] (l.map (ent key)) (i + 1) q hx 8 (Nat.le_refl _)
 have h8 := root_pr key l
 have hl : (pr 8 (ents key l)).length = 1 := by
  have := congrArg List.length h8
  unfold labs at this
  rwa [List.length_map] at this
 refine e.trans ?_
 have ha := at_lt (l.map (ent key)) (i + 1) q 8 (Nat.le_refl _)
 have h0 : atN (head :: l.map (ent key)) (i + 1) 8 = 0 := by
  have : (pr 8 (head :: l.map (ent key))).length = 1 := hl
  omega
 have h1 : (labs (pr 8 (ents key l)))[0]? = some (rootL key l) := by rw [h8]; rfl
 unfold labs at h1
 rw [List.getElem?_map] at h1
 have h2 : (pr 8 (ents key l))[0]? = (pr 8 (head :: l.map (ent key)))[atN (head :: l.map (ent key)) (i + 1) 8]? := by rw [h0]; rfl
 rw [h2, List.getElem?_eq_getElem ha] at h1
 exact Option.some.inj h1
theorem cutL_mem {l : List ByteArray} {s : Nat × Nat} {x : ByteArray} (h : x ∈ cutL l s) : x ∈ l := List.mem_of_mem_take (List.mem_of_mem_drop h)
theorem cutL_len (l : List ByteArray) (s : Nat × Nat) : (cutL l s).length ≤ l.length := by unfold cutL; rw [List.length_drop, qw]; omega
theorem ok_row (key : ByteArray) (l : List S46) (hl : l.length ≤ 60) (j : Nat) (s : Nat × Nat) : oddR (cutL (labs (pr j (ents key l))) s) = false := by
 have h1 : (cutL (labs (pr j (ents key l))) s).length ≤ 64 := by
  have a1 := cutL_len (labs (pr j (ents key l))) s
  have a2 := row_len j (ents key l)
  rw [labs_pr] at a1 ⊢
  unfold ents at a1 a2 ⊢
  simp only [List.length_cons, List.length_map] at a2
  omega
 unfold oddR
 rw [decide_eq_false (by omega), Bool.false_or]
 cases h : odds (cutL (labs (pr j (ents key l))) s) with
 | false => rfl
 | true =>
  unfold odds at h
  obtain ⟨x, hx, ho⟩ := List.any_eq_true.1 h
  have hm := cutL_mem hx
  rw [labs_pr] at hm
  have h32 := row_size j (ents key l) x hm
  unfold odd at ho
  rw [h32] at ho
  exact absurd ho (by decide)
theorem rows_ok (f : Nat → List ByteArray) (h : ∀ j, oddR (f j) = false) : oddRs ((List.range 8).map f) = false := by
 cases hh : oddRs ((List.range 8).map f) with
 | false => rfl
 | true =>
  unfold oddRs at hh
  obtain ⟨r, hr, ho⟩ := List.any_eq_true.1 hh
  obtain ⟨j, _, rfl⟩ := List.mem_map.1 hr
  rw [h j] at ho
  cases ho
theorem prove_may (key : ByteArray) (l : List S46) (hl : l.length ≤ 60) (a0 : Nat) (v : ByteArray) (hv : v.size ≤ 64) : mayN v (befR (ents key l) a0) (aftR (ents key l) a0) = 0 := by
 have o1 : oddRs (befR (ents key l) a0) = false := rows_ok _ (fun j => ok_row key l hl j _)
 have o2 : oddRs (aftR (ents key l) a0) = false := rows_ok _ (fun j => ok_row key l hl j _)
 have l1 : (befR (ents key l) a0).length = 8 := by unfold befR; simp
 have l2 : (aftR (ents key l) a0).length = 8 := by unfold aftR; simp
 unfold mayN
 rw [if_neg (by omega), if_neg]
 rintro (h | h | h | h)
 ·exact h l1
 ·exact h l2
 ·rw [o1] at h; cases h
 ·rw [o2] at h; cases h
end Go.Proofs.YtolbhliepkcihaaDoor.ProofPure
end
section
namespace Go.Proofs.YtolbhliepkcihaaDoor.Lab
open Go.RowKit YtolbhliepkcihaaDoorW.PrintWords Kinds Build Sha Mac Codec Tower Mem ProofPure
theorem is_k (f0 : Int) (f1 : ByteArray) (q : Addr) (k : Int) (w : World) (hq : w.cell? q = some (.int .u64 k)) :
  Calls Tryd.prog 89 #[.agg #[.int .u64 f0, .string f1], .pointer (some q)] w fun e w' => e = .returned (.bool (f0 == k)) ∧ Below w.heap.size w w' := by
 have hq2 := (World.cell?_alloc_lt w (.cells #[.int .u64 f0, .string f1] 46) q (qd _ _ hq)).trans hq
 have HBW := qa (Below.refl w.heap.size w) (.cells #[.int .u64 f0, .string f1] 46)
 go_enter Tryd.func89, Tryd.ntmps89
 go_wp2
 go_ret
 exact ⟨rfl, HBW⟩
set_option maxRecDepth 100000 in
set_option maxHeartbeats 4000000 in
theorem idx_k (A : Option Addr) (c : Nat) (l : List It) (w : World) (hr : Kd.C k46 w A l.length l) (hn : l.length ≤ 1000000) (q : Addr) (k : Int) (hq : w.cell? q = some (.int .u64 k)) (i : Int)
  (hi : (∃ m : Nat, ∃ h : m < l.length, i = (m : Int) ∧ l[m].f0 = k ∧ ∀ j (hj : j < m), l[j].f0 ≠ k) ∨ (i = -1 ∧ ∀ j (hj : j < l.length), l[j].f0 ≠ k)) :
  Calls Tryd.prog 88 #[.slice A l.length c, .func (.func 89) #[] #[.pointer (some q)]] w fun e w' => e = .returned (.int .i64 i) ∧ Below w.heap.size w w' := by
 have HI := Lib.hid hi
 have HC := qf hr
 have HQ := Lib.hid hq
 clear hi hr hq
 go_enter Tryd.func88, Tryd.ntmps88
 go_wp2
 go_loopw [8] (fun iv wr => ∃ m : Nat, m ≤ l.length ∧ iv = .int .i64 m ∧ Hid (∀ j (hj : j < l.length), j < m → l[j].f0 ≠ k) ∧ Aside0 (Below w.heap.size w wr)) (fun iv _ => l.length - (intOf iv).toNat)
 case atStart => exact ⟨0, Nat.zero_le _, rfl, Lib.hid (fun j hj h => absurd h (by omega)), ⟨Below.refl _ _⟩⟩
 case round =>
  obtain ⟨m, hm, rfl, HN, HB⟩ := hrel
  by_cases hlt : m < l.length
  ·obtain ⟨ad, e1, hc0, hc1⟩ := at_T46 HC.out (m : Int) (by omega) (by omega)
   cases e1
   rw [rd_it l m hlt, Int.toNat_natCast] at hc0 hc1
   replace hc0 := (HB.out.cell (qd w _ hc0)).trans hc0
   replace hc1 := (HB.out.cell (qd w _ hc1)).trans hc1
   have hqr := (HB.out.cell (qd w _ HQ.out)).trans HQ.out
   have G := Lib.hid (is_k l[m].f0 l[m].f1 q k wr hqr)
   have p0 : (0 : Int) ≤ (m : Int) := by omega
   have p1 : (m : Int) < (l.length : Int) := by omega
   cases hb : (l[m].f0 == k) with
   | true =>
    have hk := beq_iff_eq.1 hb
    have hi : i = (m : Int) := by
     rcases HI.out with ⟨m2, h2, rfl, h3, h4⟩ | ⟨_, h4⟩
     ·rcases Nat.lt_trichotomy m m2 with q1 | q1 | q1
      ·exact absurd hk (h4 m q1)
      ·rw [q1]
      ·exact absurd h3 (HN.out m2 h2 q1)
     ·exact absurd hk (h4 m hlt)
    subst hi
    rw [hb] at G
    clear hk hb
    generalize l[m].f0 = f0 at *
    generalize l[m].f1 = f1 at *
    go_wp2_with (go_at_call 89; refine (G.out).mono ?_; rintro e w1 ⟨rfl, hb1⟩; have HB2 := qf (below_step HB.out hb1); clear hb1)
    go_ret
    exact ⟨rfl, HB2.out⟩
   | false =>
    have hk : l[m].f0 ≠ k := beq_eq_false_iff_ne.1 hb
    have HN2 : Hid (∀ j (hj : j < l.length), j < m + 1 → l[j].f0 ≠ k) := Lib.hid (fun j hj h => by
     by_cases e : j = m
     ·subst e; exact hk
     ·exact HN.out j hj (by omega))
    rw [hb] at G
    clear hk hb
    generalize l[m].f0 = f0 at *
    generalize l[m].f1 = f1 at *
    go_wp2_with (go_at_call 89; refine (G.out).mono ?_; rintro e w1 ⟨rfl, hb1⟩; have HB2 := qf (below_step HB.out hb1); clear hb1)
    go_roundw
    case rel => exact ⟨m + 1, by omega, by go_num, HN2, HB2⟩
    case measure => simp [intOf]; omega
  ·obtain rfl : m = l.length := by omega
   have hi : i = -1 := by
    rcases HI.out with ⟨m2, h2, rfl, h3, h4⟩ | ⟨h4, _⟩
    ·exact absurd h3 (HN.out m2 h2 h2)
    ·exact h4
   subst hi
   go_wp2
   go_ret
   exact ⟨rfl, HB.out⟩
end Go.Proofs.YtolbhliepkcihaaDoor.Lab
end
section
namespace Go.Proofs.YtolbhliepkcihaaDoor.Lab
open Go.RowKit YtolbhliepkcihaaDoorW.PrintWords Kinds Build Sha Mac Codec Tower Mem ProofPure SkipOps SkipPure
theorem results_row_tmp {P : Program} {fn : Func} {p u : Tmp} {ty : TypeId} (h : fn.results = #[.cell p ty, .tmp u]) (tmps : Array Value) (w : World) (g : Nat) (t : TypeId) (cs : Array Value) (fr : Nat × Nat) (d : TypeDesc)
  (hp : tmps.getD p undef = .pointer (some ⟨g, 0, none⟩)) (hg : w.heap[g]? = some (.cells cs t fr))
  (hu : P.underlying ty = some d) (hd : (match d with | .struct _ | .array _ _ => true | _ => false) = true) (hi : (P.info? ty).map (·.size) = some cs.size) (v : Value) (hv : tmps.getD u undef = v) :
  (results fn tmps).run P w = .ok (.tuple #[.agg cs, v]) w := by
 have hp' : tmps[p]?.getD undef = .pointer (some ⟨g, 0, none⟩) := by simpa using hp
 have hv' : tmps[u]?.getD undef = v := by simpa using hv
 simp [results, h, hp', hv', asAddr, run_loadVar_row w g t ty cs fr d hg hu hd hi]
end Go.Proofs.YtolbhliepkcihaaDoor.Lab
end
section
namespace Go.Proofs.YtolbhliepkcihaaDoor.Lab
open Go.RowKit Go.Shelf Go.Lib Go.Sort YtolbhliepkcihaaDoorW.PrintWords Kinds Build Tower
theorem prva_walk (q11 : Addr) (now : Int) (n0 : 0 ≤ now) (n1 : now ≤ 100) (x : Int) (W : World) (h11 : W.cell? q11 = some (.int .i64 now)) :
  FnGives Tryd.prog 92 #[.pointer (some q11)] #[.int .i64 x] (.bool (decide (x ≤ now + 1))) W := by
 show Calls Tryd.prog 92 #[.int .i64 x, .pointer (some q11)] W _
 go_enter Tryd.func92, Tryd.ntmps92
 go_wp2
 all_goals (go_ret; exact ⟨by simp_all, 0, rfl⟩)
theorem prva_at (q11 : Addr) (now : Int) (n0 : 0 ≤ now) (n1 : now ≤ 100) (w : World) (h11 : w.cell? q11 = some (.int .i64 now)) :
  PredAt Tryd.prog 92 #[.pointer (some q11)] (Value.int .i64) (fun x => decide (x ≤ now + 1)) w :=
 fun W x hb => prva_walk q11 now n0 n1 x W ((hb.cell (qd _ _ h11)).trans h11)
theorem prva_over (q11 : Addr) (now : Int) (n0 : 0 ≤ now) (n1 : now ≤ 100) (blk off size : Nat) (w : World) (hne : q11.block ≠ blk) (h11 : w.cell? q11 = some (.int .i64 now)) :
  PredOver Tryd.prog 92 #[.pointer (some q11)] (Value.int .i64) (fun x => decide (x ≤ now + 1)) blk off size w :=
 fun n os dk x _ => prva_walk q11 now n0 n1 x _ (by
  have hB := qd _ _ h11
  unfold sortWorld
  rw [cell?_grow _ _ _ (by show q11.block < (putRow _ _ _ _ _).heap.size; rw [size_putRow]; exact hB), cell?_putRow_other _ _ blk off _ _ (Or.inl hne)]
  exact h11)
theorem del_a (g cap base : Nat) (hs : List Int) (now : Int) (n0 : 0 ≤ now) (n1 : now ≤ 100) (q11 : Addr) (w : World) (hown : w.ownsRow base 3 1 (.slice (some ⟨g, 0, none⟩) hs.length cap) hs.length (hs.map (Value.int .i64)))
  (h11 : w.cell? q11 = some (.int .i64 now)) (hne : q11.block ≠ g) (hn : hs.length ≤ 1000000) :
  Calls Tryd.prog 90 #[.slice (some ⟨g, 0, none⟩) hs.length cap, .func (.func 92) #[] #[.pointer (some q11)]] w fun e w' =>
   e = .returned (.slice (some ⟨g, 0, none⟩) (hs.filter fun x => !decide (x ≤ now + 1)).length cap) ∧ w'.ownsRow base 3 1 (.slice (some ⟨g, 0, none⟩) (hs.filter fun x => !decide (x ≤ now + 1)).length cap) (hs.filter fun x => !decide (x ≤ now + 1)).length ((hs.filter fun x => !decide (x ≤ now + 1)).map (Value.int .i64)) ∧ w.grownBy w' (some g) := by
 obtain ⟨hlen, hor⟩ := hown
 rcases hor with ⟨he, _⟩ | ⟨g', cap', cur, hv, hbase, hb, hnc, hcm, hsz, htk⟩
 ·cases he
 ·injection hv with e1 _ e3
  injection e1 with e1
  injection e1 with e1 _ _
  subst e1 e3
  rw [Nat.mul_one] at htk hsz
  have hH := holds_of_blockI hb htk
  have eg : ∀ args w, (callFunc 92 args).run Tryd.prog w = .ok (.enter 92 args) w := enters_of Tryd.func92 (by kernel_rfl) rfl
  have h := Tryd.slices_DeleteFunc (Value.int .i64) (fun _ => rfl) (fun x => decide (x ≤ now + 1)) 92 #[.pointer (some q11)] eg (0 : Int) Tryd.zeroValue3 g 0 cap hs.toArray w (prva_at q11 now n0 n1 w h11) (prva_over q11 now n0 n1 g 0 _ w hne h11) hH (by simp; omega) (by simpa using hnc)
  rw [show hs.toArray.size = hs.length from by simp] at h
  refine h.mono ?_
  rintro e w' ⟨rfl, q, rfl⟩
  obtain ⟨r, hr⟩ : ∃ r, (hs.filter fun x => !decide (x ≤ now + 1)) = r := ⟨_, rfl⟩
  have hrl : r.length ≤ hs.length := by rw [← hr]; exact List.length_filter_le _ _
  have hl : hs.toArray.toList = hs := by simp
  simp only [hr]
  have hD : (r ++ List.replicate (hs.length - r.length) (0 : Int)).length = hs.length := by rw [List.length_append, List.length_replicate]; omega
  have hg := grownBy_sortedI (w := w) (g := g) (n := q) (os := #[]) (r ++ List.replicate (hs.length - r.length) (0 : Int)).toArray
  rw [grow_empty] at hg
  have ht := take_putCellsI cur (r ++ List.replicate (hs.length - r.length) (0 : Int)) (by rw [hD]; omega)
  refine ⟨trivial, ⟨by simp, .inr ⟨g, cap, putCells (Value.int .i64) 0 (r ++ List.replicate (hs.length - r.length) (0 : Int)).toArray cur, rfl, hbase, ?_, by omega, hcm, by rw [Nat.mul_one]; simp [putCells, hsz], ?_⟩⟩, hg⟩
  ·show (mapBlock (Sort.ahead w q) g _).heap[g]? = _
   unfold mapBlock
   rw [Array.getElem?_modify, if_pos rfl]
   show (w.heap[g]?).map _ = _
   rw [hb]
   rfl
  ·rw [hD] at ht
   rw [Nat.mul_one]
   have h2 := congrArg (List.take r.length) ht
   rw [List.take_take, Nat.min_eq_left hrl, List.map_append, List.take_append_of_le_length (by rw [List.length_map]; exact Nat.le_refl _), show (r.map (Value.int .i64)).take r.length = r.map (Value.int .i64) from List.take_of_length_le (by rw [List.length_map]; exact Nat.le_refl _)] at h2
   exact h2
theorem prvb_walk (q11 : Addr) (now : Int) (n0 : 0 ≤ now) (n1 : now ≤ 100) (x : Int) (W : World) (h11 : W.cell? q11 = some (.int .i64 now)) :
  FnGives Tryd.prog 93 #[.pointer (some q11)] #[.int .i64 x] (.bool (decide (x ≤ now + 1))) W := by
 show Calls Tryd.prog 93 #[.int .i64 x, .pointer (some q11)] W _
 go_enter Tryd.func93, Tryd.ntmps93
 go_wp2
 all_goals (go_ret; exact ⟨by simp_all, 0, rfl⟩)
theorem prvb_at (q11 : Addr) (now : Int) (n0 : 0 ≤ now) (n1 : now ≤ 100) (w : World) (h11 : w.cell? q11 = some (.int .i64 now)) :
  PredAt Tryd.prog 93 #[.pointer (some q11)] (Value.int .i64) (fun x => decide (x ≤ now + 1)) w :=
 fun W x hb => prvb_walk q11 now n0 n1 x W ((hb.cell (qd _ _ h11)).trans h11)
theorem prvb_over (q11 : Addr) (now : Int) (n0 : 0 ≤ now) (n1 : now ≤ 100) (blk off size : Nat) (w : World) (hne : q11.block ≠ blk) (h11 : w.cell? q11 = some (.int .i64 now)) :
  PredOver Tryd.prog 93 #[.pointer (some q11)] (Value.int .i64) (fun x => decide (x ≤ now + 1)) blk off size w :=
 fun n os dk x _ => prvb_walk q11 now n0 n1 x _ (by
  have hB := qd _ _ h11
  unfold sortWorld
  rw [cell?_grow _ _ _ (by show q11.block < (putRow _ _ _ _ _).heap.size; rw [size_putRow]; exact hB), cell?_putRow_other _ _ blk off _ _ (Or.inl hne)]
  exact h11)
theorem del_b (g cap base : Nat) (hs : List Int) (now : Int) (n0 : 0 ≤ now) (n1 : now ≤ 100) (q11 : Addr) (w : World) (hown : w.ownsRow base 3 1 (.slice (some ⟨g, 0, none⟩) hs.length cap) hs.length (hs.map (Value.int .i64)))
  (h11 : w.cell? q11 = some (.int .i64 now)) (hne : q11.block ≠ g) (hn : hs.length ≤ 1000000) :
  Calls Tryd.prog 90 #[.slice (some ⟨g, 0, none⟩) hs.length cap, .func (.func 93) #[] #[.pointer (some q11)]] w fun e w' =>
   e = .returned (.slice (some ⟨g, 0, none⟩) (hs.filter fun x => !decide (x ≤ now + 1)).length cap) ∧ w'.ownsRow base 3 1 (.slice (some ⟨g, 0, none⟩) (hs.filter fun x => !decide (x ≤ now + 1)).length cap) (hs.filter fun x => !decide (x ≤ now + 1)).length ((hs.filter fun x => !decide (x ≤ now + 1)).map (Value.int .i64)) ∧ w.grownBy w' (some g) := by
 obtain ⟨hlen, hor⟩ := hown
 rcases hor with ⟨he, _⟩ | ⟨g', cap', cur, hv, hbase, hb, hnc, hcm, hsz, htk⟩
 ·cases he
 ·injection hv with e1 _ e3
  injection e1 with e1
  injection e1 with e1 _ _
  subst e1 e3
  rw [Nat.mul_one] at htk hsz
  have hH := holds_of_blockI hb htk
  have eg : ∀ args w, (callFunc 93 args).run Tryd.prog w = .ok (.enter 93 args) w := enters_of Tryd.func93 (by kernel_rfl) rfl
  have h := Tryd.slices_DeleteFunc (Value.int .i64) (fun _ => rfl) (fun x => decide (x ≤ now + 1)) 93 #[.pointer (some q11)] eg (0 : Int) Tryd.zeroValue3 g 0 cap hs.toArray w (prvb_at q11 now n0 n1 w h11) (prvb_over q11 now n0 n1 g 0 _ w hne h11) hH (by simp; omega) (by simpa using hnc)
  rw [show hs.toArray.size = hs.length from by simp] at h
  refine h.mono ?_
  rintro e w' ⟨rfl, q, rfl⟩
  obtain ⟨r, hr⟩ : ∃ r, (hs.filter fun x => !decide (x ≤ now + 1)) = r := ⟨_, rfl⟩
  have hrl : r.length ≤ hs.length := by rw [← hr]; exact List.length_filter_le _ _
  have hl : hs.toArray.toList = hs := by simp
  simp only [hr]
  have hD : (r ++ List.replicate (hs.length - r.length) (0 : Int)).length = hs.length := by rw [List.length_append, List.length_replicate]; omega
  have hg := grownBy_sortedI (w := w) (g := g) (n := q) (os := #[]) (r ++ List.replicate (hs.length - r.length) (0 : Int)).toArray
  rw [grow_empty] at hg
  have ht := take_putCellsI cur (r ++ List.replicate (hs.length - r.length) (0 : Int)) (by rw [hD]; omega)
  refine ⟨trivial, ⟨by simp, .inr ⟨g, cap, putCells (Value.int .i64) 0 (r ++ List.replicate (hs.length - r.length) (0 : Int)).toArray cur, rfl, hbase, ?_, by omega, hcm, by rw [Nat.mul_one]; simp [putCells, hsz], ?_⟩⟩, hg⟩
  ·show (mapBlock (Sort.ahead w q) g _).heap[g]? = _
   unfold mapBlock
   rw [Array.getElem?_modify, if_pos rfl]
   show (w.heap[g]?).map _ = _
   rw [hb]
   rfl
  ·rw [hD] at ht
   rw [Nat.mul_one]
   have h2 := congrArg (List.take r.length) ht
   rw [List.take_take, Nat.min_eq_left hrl, List.map_append, List.take_append_of_le_length (by rw [List.length_map]; exact Nat.le_refl _), show (r.map (Value.int .i64)).take r.length = r.map (Value.int .i64) from List.take_of_length_le (by rw [List.length_map]; exact Nat.le_refl _)] at h2
   exact h2
end Go.Proofs.YtolbhliepkcihaaDoor.Lab
end
section
namespace Go.Proofs.YtolbhliepkcihaaDoor.Lab
open Go.RowKit YtolbhliepkcihaaDoorW.PrintWords Kinds Build Sha Mac Codec Tower Mem ProofPure
theorem own_form {w : World} {base : Nat} {e : TypeId} {size : Nat} {v : Value} {N : Nat} {xs : List Value} (h : w.ownsRow base e size v N xs) (h0 : 0 < N) : ∃ g cap, v = .slice (some ⟨g, 0, none⟩) N cap ∧ N ≤ cap := by
 obtain ⟨k, rfl⟩ : ∃ k, N = k + 1 := ⟨N - 1, by omega⟩
 exact own_succ3 h
def segW (g c : Nat) (s : Nat × Nat) : Value := .slice (if c = s.1 then some ⟨g, 0, none⟩ else some ⟨g, s.1, none⟩) (s.2 - s.1) (c - s.1)
def befS (es : List E) (a0 i : Nat) : Nat × Nat := (fromN (i + 1) (pr i es) (atN es a0 i), atN es a0 i)
def aftS (es : List E) (a0 i : Nat) : Nat × Nat := (atN es a0 i + 1, toN (i + 1) (pr i es) ((pr i es).length - (atN es a0 i + 1)) (atN es a0 i + 1))
structure Outs (base : Nat) (es : List E) (a0 j : Nat) (bs xs2 : List Value) (W : World) : Prop where
 lb : bs.length = j
 la : xs2.length = j
 row : ∀ i, i < j → ∃ g c N, N = (rowF (lab i) i es).length ∧ N ≤ c ∧ W.ownsRow base 9 1 (.slice (some ⟨g, 0, none⟩) N c) N (strV (rowF (lab i) i es)) ∧ bs[i]? = some (segW g c (befS es a0 i)) ∧ xs2[i]? = some (segW g c (aftS es a0 i))
theorem Outs.keep {base : Nat} {es : List E} {a0 j : Nat} {bs xs2 : List Value} {W W' : World} (h : Outs base es a0 j bs xs2 W) (f : ∀ (v : Value) (n : Nat) (xs : List Value), W.ownsRow base 9 1 v n xs → W'.ownsRow base 9 1 v n xs) : Outs base es a0 j bs xs2 W' :=
 ⟨h.lb, h.la, fun i hi => by
  obtain ⟨g, c, N, h1, h2, h3, h4, h5⟩ := h.row i hi
  exact ⟨g, c, N, h1, h2, f _ _ _ h3, h4, h5⟩⟩
theorem Outs.push {base : Nat} {es : List E} {a0 j : Nat} {bs xs2 : List Value} {W : World} (h : Outs base es a0 j bs xs2 W) {g c N : Nat} (h1 : N = (rowF (lab j) j es).length) (h2 : N ≤ c) (h3 : W.ownsRow base 9 1 (.slice (some ⟨g, 0, none⟩) N c) N (strV (rowF (lab j) j es))) :
  Outs base es a0 (j + 1) (bs ++ [segW g c (befS es a0 j)]) (xs2 ++ [segW g c (aftS es a0 j)]) W := by
 have lb := h.lb
 have la := h.la
 refine ⟨by rw [List.length_append, lb]; rfl, by rw [List.length_append, la]; rfl, fun i hi => ?_⟩
 by_cases e : i = j
 ·subst e
  refine ⟨g, c, N, h1, h2, h3, ?_, ?_⟩
  ·rw [List.getElem?_append_right (by omega), lb, Nat.sub_self]; rfl
  ·rw [List.getElem?_append_right (by omega), la, Nat.sub_self]; rfl
 ·obtain ⟨g', c', N', q1, q2, q3, q4, q5⟩ := h.row i (by omega)
  refine ⟨g', c', N', q1, q2, q3, ?_, ?_⟩
  ·rw [List.getElem?_append_left (by omega)]; exact q4
  ·rw [List.getElem?_append_left (by omega)]; exact q5
theorem Outs.none (base : Nat) (es : List E) (a0 : Nat) (W : World) : Outs base es a0 0 [] [] W := ⟨rfl, rfl, fun i hi => absurd hi (by omega)⟩
theorem segW_reads {W : World} {base g c N : Nat} {row : List ByteArray} (h : W.ownsRow base 9 1 (.slice (some ⟨g, 0, none⟩) N c) N (strV row)) (hc : N ≤ c) (s : Nat × Nat) (h1 : s.1 ≤ s.2) (h2 : s.2 ≤ N) :
  ∃ A d, segW g c s = .slice A (cutL row s).length d ∧ (cutL row s).length ≤ d ∧ Kd.C Kd.string W A (cutL row s).length (cutL row s) := by
 have hl : row.length = N := by have := h.1; unfold strV at this; simpa using this
 have hlen : (cutL row s).length = s.2 - s.1 := by unfold cutL; rw [List.length_drop, qw]; omega
 have hC := cut_C h s h1 h2
 unfold segW
 by_cases e : c = s.1
 ·have hz : (cutL row s).length = 0 := by omega
  have hnil : cutL row s = [] := List.eq_nil_of_length_eq_zero hz
  rw [if_pos e]
  refine ⟨some ⟨g, 0, none⟩, c - s.1, by rw [hlen], by omega, ?_⟩
  rw [hnil]
  exact ⟨rfl, by simp, fun h => absurd h (Nat.lt_irrefl 0)⟩
 ·rw [if_neg e]
  exact ⟨_, c - s.1, by rw [hlen], by omega, hC⟩
theorem prove_ret2 {R : Ending → World → Prop} {w1 : World} {g : Nat} {u1 u2 : Value} (N : Blk w1 g 78 #[u1, u2]) (tmps : Array Value) (er : Int) (v1 v2 : Value) (hp : tmps.getD 6 undef = .pointer (some ⟨g, 0, none⟩)) (hv : tmps.getD 7 undef = .int .i64 er)
  (h : R (.returned (.tuple #[.agg #[v1, v2], .int .i64 er])) ((w1.setCell ⟨g, 0, none⟩ v1).setCell ⟨g, 1, none⟩ v2)) :
  bodyPost Tryd.prog Tryd.f58 R .ret { tmps := tmps, defers := [] } ((w1.setCell ⟨g, 0, none⟩ v1).setCell ⟨g, 1, none⟩ v2) := by
 have N2 := (N.set_ 0 v1).set_ 1 v2
 exact bodyPost_ret (results_row_tmp rfl _ _ g 78 #[v1, v2] (0, 0) _ hp N2 Tryd.underlying78 rfl (by kernel_rfl) _ hv) rfl h
theorem befR_eq (es : List E) (a0 : Nat) : befR es a0 = (List.range 8).map fun n => cutL (labs (pr n es)) (befS es a0 n) := List.map_congr_left (fun _ _ => rfl)
theorem aftR_eq (es : List E) (a0 : Nat) : aftR es a0 = (List.range 8).map fun n => cutL (labs (pr n es)) (aftS es a0 n) := List.map_congr_left (fun _ _ => rfl)
theorem befS_ok (r : List E) (a0 : Nat) (h0 : a0 < (pr 0 (head :: r)).length) (i : Nat) (hi : i < 8) : (befS (head :: r) a0 i).1 ≤ (befS (head :: r) a0 i).2 ∧ (befS (head :: r) a0 i).2 ≤ (rowF (lab i) i (head :: r)).length := by
 have h1 := at_lt r a0 h0 i (by omega)
 have h2 := (from_spec (i + 1) (pr i (head :: r)) (by rw [pr_head r i (by omega)]; omega) (atN (head :: r) a0 i)).1
 rw [← pr_len]
 exact ⟨h2, by show atN (head :: r) a0 i ≤ _; omega⟩
theorem aftS_ok (r : List E) (a0 : Nat) (h0 : a0 < (pr 0 (head :: r)).length) (i : Nat) (hi : i < 8) : (aftS (head :: r) a0 i).1 ≤ (aftS (head :: r) a0 i).2 ∧ (aftS (head :: r) a0 i).2 ≤ (rowF (lab i) i (head :: r)).length := by
 have h1 := at_lt r a0 h0 i (by omega)
 obtain ⟨q1, q2, _, _⟩ := to_spec (i + 1) (pr i (head :: r)) ((pr i (head :: r)).length - (atN (head :: r) a0 i + 1)) (atN (head :: r) a0 i + 1) (by omega)
 rw [← pr_len]
 exact ⟨q1, q2⟩
theorem outs_reads {W : World} {base : Nat} {es : List E} {A : Option Addr} {c : Nat} (f : Nat → Nat × Nat) (vs : List Value)
  (hv : ∀ i, i < 8 → ∃ g d N, N = (rowF (lab i) i es).length ∧ N ≤ d ∧ W.ownsRow base 9 1 (.slice (some ⟨g, 0, none⟩) N d) N (strV (rowF (lab i) i es)) ∧ vs[i]? = some (segW g d (f i)))
  (hf : ∀ i, i < 8 → (f i).1 ≤ (f i).2 ∧ (f i).2 ≤ (rowF (lab i) i es).length) (ho : W.ownsRow base 49 1 (.slice A 8 c) 8 vs) :
  Kd.C (Kd.slice 9 Kd.string) W A 8 ((List.range 8).map fun i => cutL (labs (pr i es)) (f i)) ∧ 8 ≤ c := by
 obtain ⟨g, cap, e, hcap⟩ := own_form ho (by decide)
 cases e
 refine ⟨⟨by simp, by decide, fun _ => ⟨_, rfl, fun i p hp => ?_⟩⟩, hcap⟩
 have hi : i < 8 := by have := (List.getElem?_eq_some_iff.1 hp).1; simpa using this
 have hp2 : p = cutL (labs (pr i es)) (f i) := by
  rw [List.getElem?_map, List.getElem?_range hi] at hp
  exact (Option.some.inj hp).symm
 subst hp2
 obtain ⟨g', d, N, q1, q2, q3, q4⟩ := hv i hi
 obtain ⟨f1, f2⟩ := hf i hi
 obtain ⟨B, b, r1, r2, r3⟩ := segW_reads q3 q2 (f i) f1 (by omega)
 rw [← labs_pr] at r1 r2 r3
 refine ⟨[.slice B (cutL (labs (pr i es)) (f i)).length b], rfl, ⟨B, b, rfl, r2, r3⟩, fun n u hu => ?_⟩
 cases n with
 | succ n => simp at hu
 | zero =>
  obtain rfl := Option.some.inj hu
  rw [r1] at q4
  have hc := ho.cells rfl i _ q4
  rw [show i * (Kd.slice 9 Kd.string).sz + 0 = i from by show i * 1 + 0 = i; omega]
  exact hc
theorem outs_bef {W : World} {base : Nat} {es : List E} {a0 : Nat} {bs xs2 : List Value} {A : Option Addr} {c : Nat} (o : Outs base es a0 8 bs xs2 W) (fb : ∀ n, n < 8 → (befS es a0 n).1 ≤ (befS es a0 n).2 ∧ (befS es a0 n).2 ≤ (rowF (lab n) n es).length) (ho : W.ownsRow base 49 1 (.slice A 8 c) 8 bs) :
  Kd.C (Kd.slice 9 Kd.string) W A 8 (befR es a0) ∧ 8 ≤ c := by
 rw [befR_eq]
 exact outs_reads (befS es a0) bs (fun n hn => by
  obtain ⟨q0, q1, q2, q3, q4, q5, q6, _⟩ := o.row n hn
  exact ⟨q0, q1, q2, q3, q4, q5, q6⟩) fb ho
theorem outs_aft {W : World} {base : Nat} {es : List E} {a0 : Nat} {bs xs2 : List Value} {A : Option Addr} {c : Nat} (o : Outs base es a0 8 bs xs2 W) (fa : ∀ n, n < 8 → (aftS es a0 n).1 ≤ (aftS es a0 n).2 ∧ (aftS es a0 n).2 ≤ (rowF (lab n) n es).length) (ho : W.ownsRow base 49 1 (.slice A 8 c) 8 xs2) :
  Kd.C (Kd.slice 9 Kd.string) W A 8 (aftR es a0) ∧ 8 ≤ c := by
 rw [aftR_eq]
 exact outs_reads (aftS es a0) xs2 (fun n hn => by
  obtain ⟨q0, q1, q2, q3, q4, q5, _, q6⟩ := o.row n hn
  exact ⟨q0, q1, q2, q3, q4, q5, q6⟩) fa ho
end Go.Proofs.YtolbhliepkcihaaDoor.Lab
end
