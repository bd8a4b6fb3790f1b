/- Joined by a program of this session (wip/pack.py) for this claim: QAKx3, QAKx4, AesFour, EncPlain, AesPure, PureAesEncrypts. -/
import Derived.Test.YtnaidfcehmdmcaaKAesEncryptsb
import Derived.Test.YtnaidfcehmdmcaaKAesEncryptsa
section
namespace Go.Proofs.Ytnaidfcehmdmcaa.QAK
open Go.RowKit Go.Proofs.YtnaidfcehmdmcaaW.PrintWords Go.Proofs.YtnaidfcehmdmcaaW.PrintLast Go.Proofs.YtnaidfcehmdmcaaW.PrintMore
attribute [local go_sem] max2_int min2_int max_two min_two max_three min_three max_four min_four   -- for this text's walks alone
set_option linter.unusedVariables false
set_option linter.unusedSimpArgs false
/-! ### saltusref06_Keys: function 34 -/
def saltusref06_Keys.l0 : Nat → List ByteArray → List ByteArray → Int → Option (List ByteArray)
 | 0, _, _, _ => none
 | k + 1, x3, x4, x5 => if x5 < (x3.length : Int) then (if 0 ≤ x5 then (if 0 ≤ (wrap64 (x5 + 1)) then (if (wrap64 (x5 + 1)) < (x3.length : Int) then (if (rdOf ByteArray.empty x3 x5).size + (rdOf ByteArray.empty x3 (wrap64 (x5 + 1))).size ≤ 9223372036854775807 then (if 0 ≤ (wrap64 (x5 + 2)) then (if (wrap64 (x5 + 2)) < (x3.length : Int) then (if ((rdOf ByteArray.empty x3 x5) ++ (rdOf ByteArray.empty x3 (wrap64 (x5 + 1)))).size + (rdOf ByteArray.empty x3 (wrap64 (x5 + 2))).size ≤ 9223372036854775807 then (if 0 ≤ (wrap64 (x5 + 3)) then (if (wrap64 (x5 + 3)) < (x3.length : Int) then (if (((rdOf ByteArray.empty x3 x5) ++ (rdOf ByteArray.empty x3 (wrap64 (x5 + 1)))) ++ (rdOf ByteArray.empty x3 (wrap64 (x5 + 2)))).size + (rdOf ByteArray.empty x3 (wrap64 (x5 + 3))).size ≤ 9223372036854775807 then (if x4.length < 8796093022208 then (saltusref06_Keys.l0 k x3 (x4 ++ [(((rdOf ByteArray.empty x3 x5) ++ (rdOf ByteArray.empty x3 (wrap64 (x5 + 1)))) ++ (rdOf ByteArray.empty x3 (wrap64 (x5 + 2)))) ++ (rdOf ByteArray.empty x3 (wrap64 (x5 + 3)))]) (wrap64 (x5 + 4))) else (none)) else (none)) else (none)) else (none)) else (none)) else (none)) else (none)) else (none)) else (none)) else (none)) else (none)) else (some x4)
def saltusref06_Keys.f (k : Nat) (a0 : ByteArray) : Option (List ByteArray) := (saltusref06_words.f k a0).bind fun t139 => (saltusref06_Keys.l0 k t139 (([] : List ByteArray)) 0)
theorem saltusref06_Keys.mono_l : ∀ k, (∀ y0 y1 y2, LeO (saltusref06_Keys.l0 k y0 y1 y2) (saltusref06_Keys.l0 (k + 1) y0 y1 y2))
 | 0 => fun _ _ _ r h => by simp [saltusref06_Keys.l0] at h
 | k + 1 => by
  have ih0 := saltusref06_Keys.mono_l k
  ·intro y0 y1 y2
   unfold saltusref06_Keys.l0
   repeat' first
   | (with_reducible exact ih0 _ _ _)
   | (with_reducible exact saltusref06_words.mono _ _)
   | (with_reducible exact LeO.refl _)
   | (with_reducible exact LeO.none _)
   | (with_reducible refine LeO.ite ?_ ?_)
   | (with_reducible refine LeO.bind ?_ (fun _ => ?_))
   | exact ih0 _ _ _
   | exact saltusref06_words.mono _ _
   | exact LeO.none _
   | refine LeO.ite ?_ ?_
   | refine LeO.bind ?_ (fun _ => ?_)
theorem saltusref06_Keys.mono : ∀ a0 k, LeO (saltusref06_Keys.f k a0) (saltusref06_Keys.f (k + 1) a0) := by
 intro a0 k
 have ih0 := saltusref06_Keys.mono_l k
 unfold saltusref06_Keys.f
 repeat' first
   | (with_reducible exact ih0 _ _ _)
   | (with_reducible exact saltusref06_words.mono _ _)
   | (with_reducible exact LeO.refl _)
   | (with_reducible exact LeO.none _)
   | (with_reducible refine LeO.ite ?_ ?_)
   | (with_reducible refine LeO.bind ?_ (fun _ => ?_))
   | exact ih0 _ _ _
   | exact saltusref06_words.mono _ _
   | exact LeO.none _
   | refine LeO.ite ?_ ?_
   | refine LeO.bind ?_ (fun _ => ?_)
def saltusref06_Keys.T6 : Bool × List (List Nat × List Nat) := (true, [([], []), ([], []), ([], []), ([1, 2], [1, 2]), ([3], [3]), ([], []), ([], []), ([6], [6]), ([5, 7], [5, 7]), ([8], [8]), ([4, 9], [4, 9]), ([], []), ([], []), ([12], [12]), ([11, 13], [11, 13]), ([14], [14]), ([10, 15], [10, 15]), ([], []), ([], []), ([18], [18]), ([17, 19], [17, 19]), ([20], [20]), ([16, 21], [16, 21]), ([22], [22]), ([0, 23], [0, 23]), ([24, 24, 0, 1, 2, 3, 4, 5, 6, 7, 8, 9, 10, 11, 12, 13, 14, 15, 16, 17, 18, 19, 20, 21, 22, 23, 24], [0, 24])])
def saltusref06_Keys.B6 : List Nat := [0, 0, 0, 6, 14, 0, 0, 64, 224, 480, 1022, 0, 0, 4096, 14336, 30720, 65534, 0, 0, 262144, 917504, 1966080, 4194302, 8388606, 16777215, 33554431]
theorem saltusref06_Keys.tab6 : rtab .any (opsOf Try.f34 6) = saltusref06_Keys.T6 := by kernel_rfl
theorem saltusref06_Keys.bits6 : waitsOk saltusref06_Keys.T6.2 saltusref06_Keys.B6 = true := by kernel_rfl
set_option maxHeartbeats 8000000 in
set_option maxRecDepth 100000 in
theorem saltusref06_Keys.calls (k : Nat) (a0 : ByteArray) (r : List ByteArray) (w : World) (h : saltusref06_Keys.f k a0 = some r) :
  Calls Try.prog 34 #[.string a0] w fun e w' => ∃ v0_ : Value, e = .returned (v0_) ∧ Kd.R Kd.string 9 w' w.heap.size (fun _ => True) v0_ r ∧ Below w.heap.size w w' := by
 have HB := Aside0.mk (Below.refl w.heap.size w)
 have H : ((saltusref06_words.f k a0).bind fun t139 => (saltusref06_Keys.l0 k t139 (([] : List ByteArray)) 0)) = some r := h
 clear h
 replace H := Option.bind_eq_some_iff.mp H
 obtain ⟨t139, A20, H⟩ := H
 (try dsimp only at H)
 have A2 := Aside0.mk A20
 clear A20
 obtain ⟨y142, hy142⟩ : ∃ y_ : List ByteArray, y_ = (([] : List ByteArray)) := ⟨_, rfl⟩
 replace H : (saltusref06_Keys.l0 k t139 y142 0) = some r := by first | (rw [hy142]; with_reducible exact H) | (have H2_ := (Option.bind_some _ _).symm.trans H; rw [hy142]; with_reducible exact H2_) | (have H2_ := (Option.bind_some _ _).symm.trans H; with_reducible exact H2_) | with_reducible exact H | (rw [hy142]; exact H) | exact H
 have Ny142 := Aside0.mk hy142
 clear hy142
 have H' := Aside0.mk H
 clear H
 go_enter Try.func34, Try.ntmps34
 go_wp2_with (first | ((with_reducible refine gate_callee (f := 54) rfl ?_); refine goesL_ (some 7) rfl rfl Try.func54 (by kernel_rfl) rfl #[.string a0] rfl (by (try simp only [List.map_toArray, List.map_cons, List.map_nil]); first | done | rfl | (simp only [List.length_drop, List.length_take]; rfl)) ?_; (with_reducible refine (saltusref06_words.calls k a0 t139 _ A2.out).mono ?_); rintro e w3 ⟨v140, rfl, ho0, hb⟩; refine ⟨_, rfl, ?_⟩; have n0_ := Aside0.mk (Kd.R_lower ho0 (below_size (by repeat (first | (with_reducible first | exact HB.out | apply below_alloc | apply pw_below_drewN | apply below_drew1) | exact HB.out)))); have n1_ := Aside0.mk (below_step (by repeat (first | (with_reducible first | exact HB.out | apply below_alloc | apply pw_below_drewN | apply below_drew1) | exact HB.out)) hb); clear HB; have HO141 := n0_; have HB := n1_; clear n0_ n1_; (try clear hb); (try clear hb2); (try clear hk); (try clear hi); (try clear ho0)) | ((with_reducible refine gate_dst (N := 8) rfl ?_); refine Kd.R_lit Kd.string _ 9 ?hg (N := 8) ?hd (xs := ([] : List ByteArray)) (inner := []) (ok := fun _ => True) (okp := fun _ => True) ?hr ?hp (fun _ hk => hk) trivial (Below.refl _ _) (Nat.le_refl _) (by simp) ?_; (case hd => rfl); (case hg => rfl); (case hr => first | (go_simp; done) | (go_simp; rfl)); (case hp => exact (Reps.none _ _)); intro v143 w4 ho5 hb hg_ hnew_; clear hg_ hnew_; (first | rw [← Ny142.out] at ho5 | (simp only [Int.reduceToNat] at ho5; rw [← Ny142.out] at ho5)); have n0_ := Aside0.mk (Kd.R_elder' (by (with_reducible repeat (first | apply Kd.R_alloc | apply Kd.R_drewN | apply Kd.R_drew)); exact HO141.out) (Kd.R_base ho5) hb); have n1_ := Aside0.mk (Kd.R_lower (Kd.R_new' ho5 (Kd.R_lt (by (with_reducible repeat (first | apply Kd.R_alloc | apply Kd.R_drewN | apply Kd.R_drew)); exact HO141.out))) (below_size (by repeat (first | (with_reducible first | exact HB.out | apply below_alloc | apply pw_below_drewN | apply below_drew1) | exact HB.out)))); have n2_ := Aside0.mk (below_step (by repeat (first | (with_reducible first | exact HB.out | apply below_alloc | apply pw_below_drewN | apply below_drew1) | exact HB.out)) hb); clear HO141; clear HB; have HO141 := n0_; have HO144 := n1_; have HB := n2_; clear n0_ n1_ n2_; clear hb ho5))
 go_loopg [4, 5] k (fun kq v4 v5 w' => ∃ (x4_1 : List ByteArray) (x5_1 : Int), v5 = .int .i64 x5_1 ∧ Aside0 (saltusref06_Keys.l0 kq t139 x4_1 x5_1 = some r) ∧ Aside0 (kq ≤ k) ∧ Aside0 (Kd.R Kd.string 9 w' w.heap.size (fun k_ => some k_ ≠ (v4 : Value).ownBlock) v140 t139) ∧ Aside0 (Kd.R Kd.string 9 w' w.heap.size (fun k_ => some k_ ≠ (v140 : Value).ownBlock) v4 x4_1) ∧ Aside0 (Below w.heap.size w w'))
 case atStart => exact ⟨(y142), (0), (by first | rfl | (simp; done) | (simp [*]; done)), H', ⟨Nat.le_refl _⟩, ⟨by (with_reducible repeat (first | apply Kd.R_alloc | apply Kd.R_drewN | apply Kd.R_drew)); exact Kd.R_mono HO141.out (fun _ hk => hk.2)⟩, ⟨by (with_reducible repeat (first | apply Kd.R_alloc | apply Kd.R_drewN | apply Kd.R_drew)); exact Kd.R_mono HO144.out (fun _ hk => hk.2)⟩, ⟨by repeat (first | (with_reducible first | exact HB.out | apply below_alloc | apply pw_below_drewN | apply below_drew1) | exact HB.out)⟩⟩
 case round =>
  clear H'
  try clear p2
  try clear c3
  try clear c5
  obtain ⟨x4_1, x5_1, rfl, HA, HK1, HO_3, HO_4, HB⟩ := hrel
  cases gk with
  | zero => exact absurd HA.out (by simp [saltusref06_Keys.l0])
  | succ k1 =>
   have H := HA.out
   clear HA
   simp only [saltusref06_Keys.l0] at H
   by_cases c6 : x5_1 < (t139.length : Int)
   ·rw [if_pos c6] at H
    have c6b0 : decide (x5_1 < (t139.length : Int)) = true := decide_eq_true c6
    clear c6
    by_cases c7 : 0 ≤ x5_1
    ·rw [if_pos c7] at H
     have c7b0 : decide (0 ≤ x5_1) = true := decide_eq_true c7
     clear c7
     obtain ⟨ji8, hji8⟩ : ∃ j_ : Int, (wrap64 (x5_1 + 1)) = j_ := ⟨_, rfl⟩
     replace H : (if 0 ≤ (ji8) then (if (ji8) < (t139.length : Int) then (if (rdOf ByteArray.empty t139 x5_1).size + (rdOf ByteArray.empty t139 (ji8)).size ≤ 9223372036854775807 then (if 0 ≤ (wrap64 (x5_1 + 2)) then (if (wrap64 (x5_1 + 2)) < (t139.length : Int) then (if ((rdOf ByteArray.empty t139 x5_1) ++ (rdOf ByteArray.empty t139 (ji8))).size + (rdOf ByteArray.empty t139 (wrap64 (x5_1 + 2))).size ≤ 9223372036854775807 then (if 0 ≤ (wrap64 (x5_1 + 3)) then (if (wrap64 (x5_1 + 3)) < (t139.length : Int) then (if (((rdOf ByteArray.empty t139 x5_1) ++ (rdOf ByteArray.empty t139 (ji8))) ++ (rdOf ByteArray.empty t139 (wrap64 (x5_1 + 2)))).size + (rdOf ByteArray.empty t139 (wrap64 (x5_1 + 3))).size ≤ 9223372036854775807 then (if x4_1.length < 8796093022208 then (saltusref06_Keys.l0 k1 t139 (x4_1 ++ [(((rdOf ByteArray.empty t139 x5_1) ++ (rdOf ByteArray.empty t139 (ji8))) ++ (rdOf ByteArray.empty t139 (wrap64 (x5_1 + 2)))) ++ (rdOf ByteArray.empty t139 (wrap64 (x5_1 + 3)))]) (wrap64 (x5_1 + 4))) else (none)) else (none)) else (none)) else (none)) else (none)) else (none)) else (none)) else (none)) else (none)) else (none)) = some r := by first | (rw [hji8] at H; exact H) | (simp only [hji8] at H ⊢; exact H)
     have hji8w : (IntKind.i64.wrap (x5_1 + 1)) = ji8 := (i64_w _).trans hji8
     by_cases c9 : 0 ≤ (ji8)
     ·rw [if_pos c9] at H
      have c9b0 : decide (0 ≤ (ji8)) = true := decide_eq_true c9
      clear c9
      by_cases c10 : (ji8) < (t139.length : Int)
      ·rw [if_pos c10] at H
       have c10b0 : decide ((ji8) < (t139.length : Int)) = true := decide_eq_true c10
       clear c10
       by_cases c11 : (rdOf ByteArray.empty t139 x5_1).size + (rdOf ByteArray.empty t139 (ji8)).size ≤ 9223372036854775807
       ·rw [if_pos c11] at H
        have c11b0 := eq_true c11
        have c11b1 : decide ((rdOf ByteArray.empty t139 x5_1).size + (rdOf ByteArray.empty t139 (ji8)).size ≤ 9223372036854775807) = true := decide_eq_true c11
        try have c11b2 : (9223372036854775807 < (rdOf ByteArray.empty t139 x5_1).size + (rdOf ByteArray.empty t139 (ji8)).size) = False := eq_false (Nat.not_lt.2 c11)
        obtain ⟨ji12, hji12⟩ : ∃ j_ : Int, (wrap64 (x5_1 + 2)) = j_ := ⟨_, rfl⟩
        replace H : (if 0 ≤ (ji12) then (if (ji12) < (t139.length : Int) then (if ((rdOf ByteArray.empty t139 x5_1) ++ (rdOf ByteArray.empty t139 (ji8))).size + (rdOf ByteArray.empty t139 (ji12)).size ≤ 9223372036854775807 then (if 0 ≤ (wrap64 (x5_1 + 3)) then (if (wrap64 (x5_1 + 3)) < (t139.length : Int) then (if (((rdOf ByteArray.empty t139 x5_1) ++ (rdOf ByteArray.empty t139 (ji8))) ++ (rdOf ByteArray.empty t139 (ji12))).size + (rdOf ByteArray.empty t139 (wrap64 (x5_1 + 3))).size ≤ 9223372036854775807 then (if x4_1.length < 8796093022208 then (saltusref06_Keys.l0 k1 t139 (x4_1 ++ [(((rdOf ByteArray.empty t139 x5_1) ++ (rdOf ByteArray.empty t139 (ji8))) ++ (rdOf ByteArray.empty t139 (ji12))) ++ (rdOf ByteArray.empty t139 (wrap64 (x5_1 + 3)))]) (wrap64 (x5_1 + 4))) else (none)) else (none)) else (none)) else (none)) else (none)) else (none)) else (none)) = some r := by first | (rw [hji12] at H; exact H) | (simp only [hji12] at H ⊢; exact H)
        have hji12w : (IntKind.i64.wrap (x5_1 + 2)) = ji12 := (i64_w _).trans hji12
        by_cases c13 : 0 ≤ (ji12)
        ·rw [if_pos c13] at H
         have c13b0 : decide (0 ≤ (ji12)) = true := decide_eq_true c13
         clear c13
         by_cases c14 : (ji12) < (t139.length : Int)
         ·rw [if_pos c14] at H
          have c14b0 : decide ((ji12) < (t139.length : Int)) = true := decide_eq_true c14
          clear c14
          by_cases c15 : ((rdOf ByteArray.empty t139 x5_1) ++ (rdOf ByteArray.empty t139 (ji8))).size + (rdOf ByteArray.empty t139 (ji12)).size ≤ 9223372036854775807
          ·rw [if_pos c15] at H
           have c15b0 := eq_true c15
           have c15b1 : decide (((rdOf ByteArray.empty t139 x5_1) ++ (rdOf ByteArray.empty t139 (ji8))).size + (rdOf ByteArray.empty t139 (ji12)).size ≤ 9223372036854775807) = true := decide_eq_true c15
           try have c15b2 : (9223372036854775807 < ((rdOf ByteArray.empty t139 x5_1) ++ (rdOf ByteArray.empty t139 (ji8))).size + (rdOf ByteArray.empty t139 (ji12)).size) = False := eq_false (Nat.not_lt.2 c15)
           have c15m : (9223372036854775807 < ((rdOf ByteArray.empty t139 x5_1).size + (rdOf ByteArray.empty t139 (ji8)).size) + (rdOf ByteArray.empty t139 (ji12)).size) = False := by have h_ := c15; simp only [ByteArray.size_extract, ByteArray.size_append, Nat.min_self] at h_; exact eq_false (by omega)
           obtain ⟨ji16, hji16⟩ : ∃ j_ : Int, (wrap64 (x5_1 + 3)) = j_ := ⟨_, rfl⟩
           replace H : (if 0 ≤ (ji16) then (if (ji16) < (t139.length : Int) then (if (((rdOf ByteArray.empty t139 x5_1) ++ (rdOf ByteArray.empty t139 (ji8))) ++ (rdOf ByteArray.empty t139 (ji12))).size + (rdOf ByteArray.empty t139 (ji16)).size ≤ 9223372036854775807 then (if x4_1.length < 8796093022208 then (saltusref06_Keys.l0 k1 t139 (x4_1 ++ [(((rdOf ByteArray.empty t139 x5_1) ++ (rdOf ByteArray.empty t139 (ji8))) ++ (rdOf ByteArray.empty t139 (ji12))) ++ (rdOf ByteArray.empty t139 (ji16))]) (wrap64 (x5_1 + 4))) else (none)) else (none)) else (none)) else (none)) = some r := by first | (rw [hji16] at H; exact H) | (simp only [hji16] at H ⊢; exact H)
           have hji16w : (IntKind.i64.wrap (x5_1 + 3)) = ji16 := (i64_w _).trans hji16
           by_cases c17 : 0 ≤ (ji16)
           ·rw [if_pos c17] at H
            have c17b0 : decide (0 ≤ (ji16)) = true := decide_eq_true c17
            clear c17
            by_cases c18 : (ji16) < (t139.length : Int)
            ·rw [if_pos c18] at H
             have c18b0 : decide ((ji16) < (t139.length : Int)) = true := decide_eq_true c18
             clear c18
             by_cases c19 : (((rdOf ByteArray.empty t139 x5_1) ++ (rdOf ByteArray.empty t139 (ji8))) ++ (rdOf ByteArray.empty t139 (ji12))).size + (rdOf ByteArray.empty t139 (ji16)).size ≤ 9223372036854775807
             ·rw [if_pos c19] at H
              have c19b0 := eq_true c19
              have c19b1 : decide ((((rdOf ByteArray.empty t139 x5_1) ++ (rdOf ByteArray.empty t139 (ji8))) ++ (rdOf ByteArray.empty t139 (ji12))).size + (rdOf ByteArray.empty t139 (ji16)).size ≤ 9223372036854775807) = true := decide_eq_true c19
              try have c19b2 : (9223372036854775807 < (((rdOf ByteArray.empty t139 x5_1) ++ (rdOf ByteArray.empty t139 (ji8))) ++ (rdOf ByteArray.empty t139 (ji12))).size + (rdOf ByteArray.empty t139 (ji16)).size) = False := eq_false (Nat.not_lt.2 c19)
              have c19m : (9223372036854775807 < (((rdOf ByteArray.empty t139 x5_1).size + (rdOf ByteArray.empty t139 (ji8)).size) + (rdOf ByteArray.empty t139 (ji12)).size) + (rdOf ByteArray.empty t139 (ji16)).size) = False := by have h_ := c19; simp only [ByteArray.size_extract, ByteArray.size_append, Nat.min_self] at h_; exact eq_false (by omega)
              by_cases c20 : x4_1.length < 8796093022208
              ·rw [if_pos c20] at H
               have LMc20 := Aside0.mk c20
               clear c20
               obtain ⟨y149, hy149⟩ : ∃ y_ : List ByteArray, y_ = (x4_1 ++ [(((rdOf ByteArray.empty t139 x5_1) ++ (rdOf ByteArray.empty t139 (ji8))) ++ (rdOf ByteArray.empty t139 (ji12))) ++ (rdOf ByteArray.empty t139 (ji16))]) := ⟨_, rfl⟩
               replace H : (saltusref06_Keys.l0 k1 t139 y149 (wrap64 (x5_1 + 4))) = some r := by first | (rw [hy149]; with_reducible exact H) | (have H2_ := (Option.bind_some _ _).symm.trans H; rw [hy149]; with_reducible exact H2_) | (have H2_ := (Option.bind_some _ _).symm.trans H; with_reducible exact H2_) | with_reducible exact H | (rw [hy149]; exact H) | exact H
               have Ny149 := Aside0.mk hy149
               clear hy149
               have H' := Aside0.mk H
               clear H
               obtain ⟨Ao21, co21, eo21⟩ := Kd.R_slice HO_3.out
               subst eo21
               try go_wp2
               have n0_ := Aside0.mk (Kd.R_drew HO_3.out)
               have n1_ := Aside0.mk (Kd.R_drew HO_4.out)
               have n2_ := Aside0.mk (below_drew1 HB.out)
               clear HO_3
               clear HO_4
               clear HB
               have HO_3 := n0_
               have HO_4 := n1_
               have HB := n2_
               clear n0_ n1_ n2_
               have p145 : 0 ≤ (x5_1 : Int) := of_decide_eq_true (by first | (with_reducible assumption) | assumption)
               have q145 : x5_1 < (t139.length : Int) := of_decide_eq_true (by first | (with_reducible assumption) | assumption)
               obtain ⟨ad145, e145, hx145_0⟩ := Kd.at_string (Kd.R_reads' HO_3.out).2.2 x5_1 p145 q145
               cases e145
               replace p145 := eq_true p145
               replace q145 := eq_true q145
               have p146 : 0 ≤ ((ji8) : Int) := of_decide_eq_true (by first | (with_reducible assumption) | assumption)
               have q146 : (ji8) < (t139.length : Int) := of_decide_eq_true (by first | (with_reducible assumption) | assumption)
               obtain ⟨ad146, e146, hx146_0⟩ := Kd.at_string (Kd.R_reads' HO_3.out).2.2 (ji8) p146 q146
               obtain rfl : ad145 = ad146 := (by injection e146)
               replace p146 := eq_true p146
               replace q146 := eq_true q146
               have p147 : 0 ≤ ((ji12) : Int) := of_decide_eq_true (by first | (with_reducible assumption) | assumption)
               have q147 : (ji12) < (t139.length : Int) := of_decide_eq_true (by first | (with_reducible assumption) | assumption)
               obtain ⟨ad147, e147, hx147_0⟩ := Kd.at_string (Kd.R_reads' HO_3.out).2.2 (ji12) p147 q147
               obtain rfl : ad145 = ad147 := (by injection e147)
               replace p147 := eq_true p147
               replace q147 := eq_true q147
               have p148 : 0 ≤ ((ji16) : Int) := of_decide_eq_true (by first | (with_reducible assumption) | assumption)
               have q148 : (ji16) < (t139.length : Int) := of_decide_eq_true (by first | (with_reducible assumption) | assumption)
               obtain ⟨ad148, e148, hx148_0⟩ := Kd.at_string (Kd.R_reads' HO_3.out).2.2 (ji16) p148 q148
               obtain rfl : ad145 = ad148 := (by injection e148)
               replace p148 := eq_true p148
               replace q148 := eq_true q148
               refine start_ (n := 26) (S := fun w' => w'.cell? (ad145.add (x5_1).toNat) = some (.string (rdOf ByteArray.empty t139 x5_1)) ∧ w'.cell? (ad145.add ((ji8)).toNat) = some (.string (rdOf ByteArray.empty t139 (ji8))) ∧ w'.cell? (ad145.add ((ji12)).toNat) = some (.string (rdOf ByteArray.empty t139 (ji12))) ∧ w'.cell? (ad145.add ((ji16)).toNat) = some (.string (rdOf ByteArray.empty t139 (ji16)))) (ds := [23, 24]) #[false, false, false, false, false, false, false, false, false, false, false, false, false, false, false, false, false, false, false, false, false, false, false, false, false, false] (by kernel_rfl) rfl rfl ⟨hx145_0, hx146_0, hx147_0, hx148_0⟩ (fun hHeld => ?_); refine with_tabW saltusref06_Keys.tab6 saltusref06_Keys.bits6 (fun HT_ HW_ => ?_)
               generalize wr.drew = w22 at HO_3 HO_4 HB hx145_0 hx146_0 hx147_0 hx148_0 hHeld ⊢
               refine pure_ (i := 0) (N := some 15) (v := ?_) (a' := ?_) #[true, false, false, false, false, false, false, false, false, false, false, false, false, false, false, false, false, false, false, false, false, false, false, false, false, false] rfl rfl (any_of HT_.out (by kernel_rfl)) (fun _ _ _ h => h) (Or.inl ⟨by rfl, ?_⟩) ?_ ?_
               rotate_left
               ·intro w'
                go_simp
                with_reducible rfl
               rotate_left
               ·simp only [Act.put, List.setIfInBounds_toArray, List.set_cons_zero, List.set_cons_succ, i64_w, i32_w]
                rfl
               refine pure_ (i := 1) (N := some 16) (v := ?_) (a' := ?_) #[true, true, false, false, false, false, false, false, false, false, false, false, false, false, false, false, false, false, false, false, false, false, false, false, false, false] rfl rfl (any_of HT_.out (by kernel_rfl)) (fun _ _ _ h => h) (Or.inl ⟨by rfl, ?_⟩) ?_ ?_
               rotate_left
               ·intro w'
                go_simp
                with_reducible rfl
               rotate_left
               ·simp only [Act.put, List.setIfInBounds_toArray, List.set_cons_zero, List.set_cons_succ, i64_w, i32_w]
                rfl
               refine pure_ (i := 2) (N := some 17) (v := ?_) (a' := ?_) #[true, true, true, false, false, false, false, false, false, false, false, false, false, false, false, false, false, false, false, false, false, false, false, false, false, false] rfl rfl (any_of HT_.out (by kernel_rfl)) (fun _ _ _ h => h) (Or.inl ⟨by rfl, ?_⟩) ?_ ?_
               rotate_left
               ·intro w'
                go_simp
                with_reducible rfl
               rotate_left
               ·simp only [Act.put, List.setIfInBounds_toArray, List.set_cons_zero, List.set_cons_succ, i64_w, i32_w]
                rfl
               refine pure_ (i := 3) (N := some 18) (v := ?_) (a' := ?_) #[true, true, true, true, false, false, false, false, false, false, false, false, false, false, false, false, false, false, false, false, false, false, false, false, false, false] rfl rfl (any_of HT_.out (by kernel_rfl)) (fun _ _ _ h => h) (Or.inl ⟨by rfl, ?_⟩) ?_ ?_
               rotate_left
               ·intro w'
                go_simp
                with_reducible rfl
               rotate_left
               ·simp only [Act.put, List.setIfInBounds_toArray, List.set_cons_zero, List.set_cons_succ, i64_w, i32_w]
                rfl
               refine pure_ (i := 5) (N := some 20) (v := ?_) (a' := ?_) #[true, true, true, true, false, true, false, false, false, false, false, false, false, false, false, false, false, false, false, false, false, false, false, false, false, false] rfl rfl (any_of HT_.out (by kernel_rfl)) (fun _ _ _ h => h) (Or.inl ⟨by rfl, ?_⟩) ?_ ?_
               rotate_left
               ·intro w'
                go_simp
                with_reducible rfl
               rotate_left
               ·simp only [Act.put, List.setIfInBounds_toArray, List.set_cons_zero, List.set_cons_succ, i64_w, i32_w]
                rfl
               refine pure_ (i := 6) (N := some 21) (v := ?_) (a' := ?_) #[true, true, true, true, false, true, true, false, false, false, false, false, false, false, false, false, false, false, false, false, false, false, false, false, false, false] rfl rfl (any_of HT_.out (by kernel_rfl)) (fun _ _ _ h => h) (Or.inl ⟨by rfl, ?_⟩) ?_ ?_
               rotate_left
               ·intro w'
                go_simp
                with_reducible rfl
               rotate_left
               ·simp only [Act.put, List.setIfInBounds_toArray, List.set_cons_zero, List.set_cons_succ, i64_w, i32_w]
                rfl
               refine pure_ (i := 7) (N := some 22) (v := ?_) (a' := ?_) #[true, true, true, true, false, true, true, true, false, false, false, false, false, false, false, false, false, false, false, false, false, false, false, false, false, false] rfl rfl (any_of HT_.out (by kernel_rfl)) (fun _ _ _ h => h) (Or.inl ⟨by rfl, ?_⟩) ?_ ?_
               rotate_left
               ·intro w'
                go_simp
                with_reducible rfl
               rotate_left
               ·simp only [Act.put, List.setIfInBounds_toArray, List.set_cons_zero, List.set_cons_succ, i64_w, i32_w]
                rfl
               refine pure_ (i := 8) (N := some 23) (v := ?_) (a' := ?_) #[true, true, true, true, false, true, true, true, true, false, false, false, false, false, false, false, false, false, false, false, false, false, false, false, false, false] rfl rfl (any_of HT_.out (by kernel_rfl)) (fun _ _ _ h => h) (Or.inl ⟨by rfl, ?_⟩) ?_ ?_
               rotate_left
               ·intro w'
                go_simp
                with_reducible rfl
               rotate_left
               ·simp only [Act.put, List.setIfInBounds_toArray, List.set_cons_zero, List.set_cons_succ, i64_w, i32_w]
                rfl
               refine pure_ (i := 11) (N := some 26) (v := ?_) (a' := ?_) #[true, true, true, true, false, true, true, true, true, false, false, true, false, false, false, false, false, false, false, false, false, false, false, false, false, false] rfl rfl (any_of HT_.out (by kernel_rfl)) (fun _ _ _ h => h) (Or.inl ⟨by rfl, ?_⟩) ?_ ?_
               rotate_left
               ·intro w'
                go_simp
                with_reducible rfl
               rotate_left
               ·simp only [Act.put, List.setIfInBounds_toArray, List.set_cons_zero, List.set_cons_succ, i64_w, i32_w]
                rfl
               refine pure_ (i := 12) (N := some 27) (v := ?_) (a' := ?_) #[true, true, true, true, false, true, true, true, true, false, false, true, true, false, false, false, false, false, false, false, false, false, false, false, false, false] rfl rfl (any_of HT_.out (by kernel_rfl)) (fun _ _ _ h => h) (Or.inl ⟨by rfl, ?_⟩) ?_ ?_
               rotate_left
               ·intro w'
                go_simp
                with_reducible rfl
               rotate_left
               ·simp only [Act.put, List.setIfInBounds_toArray, List.set_cons_zero, List.set_cons_succ, i64_w, i32_w]
                rfl
               refine pure_ (i := 13) (N := some 28) (v := ?_) (a' := ?_) #[true, true, true, true, false, true, true, true, true, false, false, true, true, true, false, false, false, false, false, false, false, false, false, false, false, false] rfl rfl (any_of HT_.out (by kernel_rfl)) (fun _ _ _ h => h) (Or.inl ⟨by rfl, ?_⟩) ?_ ?_
               rotate_left
               ·intro w'
                go_simp
                with_reducible rfl
               rotate_left
               ·simp only [Act.put, List.setIfInBounds_toArray, List.set_cons_zero, List.set_cons_succ, i64_w, i32_w]
                rfl
               refine pure_ (i := 14) (N := some 29) (v := ?_) (a' := ?_) #[true, true, true, true, false, true, true, true, true, false, false, true, true, true, true, false, false, false, false, false, false, false, false, false, false, false] rfl rfl (any_of HT_.out (by kernel_rfl)) (fun _ _ _ h => h) (Or.inl ⟨by rfl, ?_⟩) ?_ ?_
               rotate_left
               ·intro w'
                go_simp
                with_reducible rfl
               rotate_left
               ·simp only [Act.put, List.setIfInBounds_toArray, List.set_cons_zero, List.set_cons_succ, i64_w, i32_w]
                rfl
               refine pure_ (i := 17) (N := some 32) (v := ?_) (a' := ?_) #[true, true, true, true, false, true, true, true, true, false, false, true, true, true, true, false, false, true, false, false, false, false, false, false, false, false] rfl rfl (any_of HT_.out (by kernel_rfl)) (fun _ _ _ h => h) (Or.inl ⟨by rfl, ?_⟩) ?_ ?_
               rotate_left
               ·intro w'
                go_simp
                with_reducible rfl
               rotate_left
               ·simp only [Act.put, List.setIfInBounds_toArray, List.set_cons_zero, List.set_cons_succ, i64_w, i32_w]
                rfl
               refine pure_ (i := 18) (N := some 33) (v := ?_) (a' := ?_) #[true, true, true, true, false, true, true, true, true, false, false, true, true, true, true, false, false, true, true, false, false, false, false, false, false, false] rfl rfl (any_of HT_.out (by kernel_rfl)) (fun _ _ _ h => h) (Or.inl ⟨by rfl, ?_⟩) ?_ ?_
               rotate_left
               ·intro w'
                go_simp
                with_reducible rfl
               rotate_left
               ·simp only [Act.put, List.setIfInBounds_toArray, List.set_cons_zero, List.set_cons_succ, i64_w, i32_w]
                rfl
               refine pure_ (i := 19) (N := some 34) (v := ?_) (a' := ?_) #[true, true, true, true, false, true, true, true, true, false, false, true, true, true, true, false, false, true, true, true, false, false, false, false, false, false] rfl rfl (any_of HT_.out (by kernel_rfl)) (fun _ _ _ h => h) (Or.inl ⟨by rfl, ?_⟩) ?_ ?_
               rotate_left
               ·intro w'
                go_simp
                with_reducible rfl
               rotate_left
               ·simp only [Act.put, List.setIfInBounds_toArray, List.set_cons_zero, List.set_cons_succ, i64_w, i32_w]
                rfl
               refine pure_ (i := 20) (N := some 35) (v := ?_) (a' := ?_) #[true, true, true, true, false, true, true, true, true, false, false, true, true, true, true, false, false, true, true, true, true, false, false, false, false, false] rfl rfl (any_of HT_.out (by kernel_rfl)) (fun _ _ _ h => h) (Or.inl ⟨by rfl, ?_⟩) ?_ ?_
               rotate_left
               ·intro w'
                go_simp
                with_reducible rfl
               rotate_left
               ·simp only [Act.put, List.setIfInBounds_toArray, List.set_cons_zero, List.set_cons_succ, i64_w, i32_w]
                rfl
               refine take_ (i := 4) (N := some 19) (v := ?_) (a' := ?_) #[true, true, true, true, true, true, true, true, true, false, false, true, true, true, true, false, false, true, true, true, true, false, false, false, false, false] rfl rfl (take_ofW HT_.out HW_.out (by kernel_rfl)) (fun _ _ _ h => h) (Or.inl ⟨by rfl, ?_⟩) hHeld ?_ ?_
               rotate_left
               ·rintro w' ⟨s0, s1, s2, s3⟩
                go_simp
                with_reducible rfl
               rotate_left
               ·simp only [Act.put, List.setIfInBounds_toArray, List.set_cons_zero, List.set_cons_succ, i64_w, i32_w]
                rfl
               refine take_ (i := 9) (N := some 24) (v := ?_) (a' := ?_) #[true, true, true, true, true, true, true, true, true, true, false, true, true, true, true, false, false, true, true, true, true, false, false, false, false, false] rfl rfl (take_ofW HT_.out HW_.out (by kernel_rfl)) (fun _ _ _ h => h) (Or.inl ⟨by rfl, ?_⟩) hHeld ?_ ?_
               rotate_left
               ·rintro w' ⟨s0, s1, s2, s3⟩
                go_simp
                with_reducible rfl
               rotate_left
               ·simp only [Act.put, List.setIfInBounds_toArray, List.set_cons_zero, List.set_cons_succ, i64_w, i32_w]
                rfl
               refine pure_ (i := 10) (N := some 25) (v := ?_) (a' := ?_) #[true, true, true, true, true, true, true, true, true, true, true, true, true, true, true, false, false, true, true, true, true, false, false, false, false, false] rfl rfl (any_of HT_.out (by kernel_rfl)) (fun _ _ _ h => h) (Or.inl ⟨by rfl, ?_⟩) ?_ ?_
               rotate_left
               ·intro w'
                go_simp
                with_reducible rfl
               rotate_left
               ·simp only [Act.put, List.setIfInBounds_toArray, List.set_cons_zero, List.set_cons_succ, i64_w, i32_w]
                rfl
               refine take_ (i := 15) (N := some 30) (v := ?_) (a' := ?_) #[true, true, true, true, true, true, true, true, true, true, true, true, true, true, true, true, false, true, true, true, true, false, false, false, false, false] rfl rfl (take_ofW HT_.out HW_.out (by kernel_rfl)) (fun _ _ _ h => h) (Or.inl ⟨by rfl, ?_⟩) hHeld ?_ ?_
               rotate_left
               ·rintro w' ⟨s0, s1, s2, s3⟩
                go_simp
                with_reducible rfl
               rotate_left
               ·simp only [Act.put, List.setIfInBounds_toArray, List.set_cons_zero, List.set_cons_succ, i64_w, i32_w]
                rfl
               refine pure_ (i := 16) (N := some 31) (v := ?_) (a' := ?_) #[true, true, true, true, true, true, true, true, true, true, true, true, true, true, true, true, true, true, true, true, true, false, false, false, false, false] rfl rfl (any_of HT_.out (by kernel_rfl)) (fun _ _ _ h => h) (Or.inl ⟨by rfl, ?_⟩) ?_ ?_
               rotate_left
               ·intro w'
                go_simp
                with_reducible rfl
               rotate_left
               ·simp only [Act.put, List.setIfInBounds_toArray, List.set_cons_zero, List.set_cons_succ, i64_w, i32_w]
                rfl
               refine take_ (i := 21) (N := some 36) (v := ?_) (a' := ?_) #[true, true, true, true, true, true, true, true, true, true, true, true, true, true, true, true, true, true, true, true, true, true, false, false, false, false] rfl rfl (take_ofW HT_.out HW_.out (by kernel_rfl)) (fun _ _ _ h => h) (Or.inl ⟨by rfl, ?_⟩) hHeld ?_ ?_
               rotate_left
               ·rintro w' ⟨s0, s1, s2, s3⟩
                go_simp
                with_reducible rfl
               rotate_left
               ·simp only [Act.put, List.setIfInBounds_toArray, List.set_cons_zero, List.set_cons_succ, i64_w, i32_w]
                rfl
               refine pure_ (i := 22) (N := some 37) (v := ?_) (a' := ?_) #[true, true, true, true, true, true, true, true, true, true, true, true, true, true, true, true, true, true, true, true, true, true, true, false, false, false] rfl rfl (any_of HT_.out (by kernel_rfl)) (fun _ _ _ h => h) (Or.inl ⟨by rfl, ?_⟩) ?_ ?_
               rotate_left
               ·intro w'
                go_simp
                with_reducible rfl
               rotate_left
               ·simp only [Act.put, List.setIfInBounds_toArray, List.set_cons_zero, List.set_cons_succ, i64_w, i32_w]
                rfl
               refine last_ (i := 23) (N := some 38) #[true, true, true, true, true, true, true, true, true, true, true, true, true, true, true, true, true, true, true, true, true, true, true, true, false, false] rfl rfl (one_of HT_.out (by kernel_rfl)) (by decide) (fun K hK => ?_)
               refine value_ (w1 := ?_) (v := ?_) (by rfl) rfl ?_ ?_
               rotate_left 2
               ·go_simp
                constructor
                ·rfl
                ·rfl
               refine hK.out _ _ ?_
               clear hK K
               refine norm_ (a' := ?_) ?_ ?_
               rotate_left
               ·show Act.put _ (some 38) _ = _
                simp only [Act.put, List.setIfInBounds_toArray, List.set_cons_zero, List.set_cons_succ, i64_w, i32_w]
                rfl
               refine last_ (i := 24) (N := some 39) #[true, true, true, true, true, true, true, true, true, true, true, true, true, true, true, true, true, true, true, true, true, true, true, true, true, false] rfl rfl (one_of HT_.out (by kernel_rfl)) (by decide) (fun K hK => ?_)
               refine Kd.R_append_step Kd.string (w0 := w) w.heap.size (by rfl) (.tmp 15) (.tmp 38) 36 9 (.string ⟨#[]⟩) 16 rfl Try.underlying36 info9 rfl (by decide) (by omega) u4 x4_1 ((((rdOf ByteArray.empty t139 x5_1) ++ (rdOf ByteArray.empty t139 (ji8))) ++ (rdOf ByteArray.empty t139 (ji12))) ++ (rdOf ByteArray.empty t139 (ji16))) [.string ((((rdOf ByteArray.empty t139 x5_1) ++ (rdOf ByteArray.empty t139 (ji8))) ++ (rdOf ByteArray.empty t139 (ji12))) ++ (rdOf ByteArray.empty t139 (ji16)))] (fun k_ => some k_ ≠ (.slice (some ad145) t139.length co21 : Value).ownBlock) (fun _ => False) rfl rfl ?aP (fun _ hk => hk.elim) ?aF ?aO ?aB ?aS ?aL ?_
               (case aP => exact rfl)
               (case aB => exact (by repeat (first | (with_reducible first | exact HB.out | apply below_alloc | apply pw_below_drewN | apply below_drew1) | exact HB.out)))
               (case aF => exact (fun k_ hk => Kd.fresh' (Kd.R_lt (by (with_reducible repeat (first | apply Kd.R_alloc | apply Kd.R_drewN | apply Kd.R_drew)); exact HO_3.out)) k_ hk))
               (case aO => exact (by (with_reducible repeat (first | apply Kd.R_alloc | apply Kd.R_drewN | apply Kd.R_drew)); exact HO_4.out))
               (case aS => exact (below_size (by repeat (first | (with_reducible first | exact HB.out | apply below_alloc | apply pw_below_drewN | apply below_drew1) | exact HB.out))))
               (case aL => have := LMc20.out; omega)
               intro v150 w23 ho hb hg hat
               rw [← Ny149.out] at ho
               have n0_ := Aside0.mk (Kd.R_after (ok := (fun _ => True)) (by (with_reducible repeat (first | apply Kd.R_alloc | apply Kd.R_drewN | apply Kd.R_drew)); exact Kd.R_mono HO_3.out (fun _ hk => ⟨trivial, hk⟩)) hg hat)
               have n1_ := Aside0.mk (hb)
               have n2_ := Aside0.mk (ho)
               clear HO_3
               clear HB
               clear HO_4
               have HO_3 := n0_
               have HB := n1_
               have HO151 := n2_
               clear n0_ n1_ n2_
               clear ho hb hg hat
               refine hK.out _ _ ?_
               clear hK K
               refine norm_ (a' := ?_) ?_ ?_
               rotate_left
               ·show Act.put _ (some 39) _ = _
                simp only [Act.put, List.setIfInBounds_toArray, List.set_cons_zero, List.set_cons_succ, i64_w, i32_w]
                rfl
               refine pure_ (i := 25) (N := some 4) (v := ?_) (a' := ?_) #[true, true, true, true, true, true, true, true, true, true, true, true, true, true, true, true, true, true, true, true, true, true, true, true, true, true] rfl rfl (any_of HT_.out (by kernel_rfl)) (fun _ _ _ h => h) (Or.inl ⟨by rfl, ?_⟩) ?_ ?_
               rotate_left
               ·intro w'
                go_simp
                with_reducible rfl
               rotate_left
               ·simp only [Act.put, List.setIfInBounds_toArray, List.set_cons_zero, List.set_cons_succ, i64_w, i32_w]
                rfl
               refine done_ (done_of HT_.out (by kernel_rfl)) ?_
               try go_wp2
               go_roundg k1
               case measure => have := HK1.out; omega
               case rel => exact ⟨(y149), (wrap64 (x5_1 + 4)), (by first | rfl | (simp; done) | (simp [*]; done)), H', ⟨by have := HK1.out; omega⟩, ⟨by (with_reducible repeat (first | apply Kd.R_alloc | apply Kd.R_drewN | apply Kd.R_drew)); exact Kd.R_mono HO_3.out (fun _ hk => hk.2)⟩, ⟨by (with_reducible repeat (first | apply Kd.R_alloc | apply Kd.R_drewN | apply Kd.R_drew)); exact HO151.out⟩, ⟨by repeat (first | (with_reducible first | exact HB.out | apply below_alloc | apply pw_below_drewN | apply below_drew1) | exact HB.out)⟩⟩
              ·rw [if_neg c20] at H
               exact absurd H (by simp)
             ·rw [if_neg c19] at H
              exact absurd H (by simp)
            ·rw [if_neg c18] at H
             exact absurd H (by simp)
           ·rw [if_neg c17] at H
            exact absurd H (by simp)
          ·rw [if_neg c15] at H
           exact absurd H (by simp)
         ·rw [if_neg c14] at H
          exact absurd H (by simp)
        ·rw [if_neg c13] at H
         exact absurd H (by simp)
       ·rw [if_neg c11] at H
        exact absurd H (by simp)
      ·rw [if_neg c10] at H
       exact absurd H (by simp)
     ·rw [if_neg c9] at H
      exact absurd H (by simp)
    ·rw [if_neg c7] at H
     exact absurd H (by simp)
   ·rw [if_neg c6] at H
    have c6b0 : decide (x5_1 < (t139.length : Int)) = false := decide_eq_false c6
    clear c6
    obtain rfl := Option.some.inj H
    obtain ⟨Ao24, co24, eo24⟩ := Kd.R_slice HO_3.out
    subst eo24
    go_wp2
    go_ret
    exact ⟨_, by first | rfl | (simp [errW_none, errW_some] <;> rfl) | (simp [*, errW_none, errW_some] <;> rfl), by (with_reducible repeat (first | apply Kd.R_alloc | apply Kd.R_drewN | apply Kd.R_drew)); exact Kd.R_mono HO_4.out (fun _ hk => trivial), by repeat (first | (with_reducible first | exact HB.out | apply below_alloc | apply pw_below_drewN | apply below_drew1) | exact HB.out)⟩
/-! ### saltuslaw06_AesKeys: function 9 -/
def saltuslaw06_AesKeys.f (k : Nat) (a0 : ByteArray) : Option (Bool) := (saltuslaw06_cut.f a0).bind fun t152 => ((aes_Keys.f t152).bind fun bt153 => ((saltusref06_Key.f t152).bind fun t157 => (if t157 = true then ((saltuslaw06_alive.f).bind fun t158 => (if t158 = true then (if bt153.2 = 0 then ((saltusref06_Keys.f k t152).bind fun t159 => ((saltusref04_Same.f k bt153.1 t159).bind fun t162 => (some t162))) else (some false)) else (some false))) else ((saltuslaw06_alive.f).bind fun t163 => (if t163 = true then (if bt153.2 = 4 then (some ((bt153.1.length : Int) == 0)) else (some false)) else (some false))))))
theorem saltuslaw06_AesKeys.mono : ∀ a0 k, LeO (saltuslaw06_AesKeys.f k a0) (saltuslaw06_AesKeys.f (k + 1) a0) := by
 intro a0 k
 unfold saltuslaw06_AesKeys.f
 repeat' first
   | (with_reducible exact saltusref04_Same.mono _ _ _)
   | (with_reducible exact saltusref06_Keys.mono _ _)
   | (with_reducible exact LeO.refl _)
   | (with_reducible exact LeO.none _)
   | (with_reducible refine LeO.ite ?_ ?_)
   | (with_reducible refine LeO.bind ?_ (fun _ => ?_))
   | exact saltusref04_Same.mono _ _ _
   | exact saltusref06_Keys.mono _ _
   | exact LeO.none _
   | refine LeO.ite ?_ ?_
   | refine LeO.bind ?_ (fun _ => ?_)
set_option maxHeartbeats 8000000 in
set_option maxRecDepth 100000 in
theorem saltuslaw06_AesKeys.calls (k : Nat) (a0 : ByteArray) (r : Bool) (w : World) (hr : Aside0 (r = true)) (h : saltuslaw06_AesKeys.f k a0 = some r) :
  Calls Try.prog 9 #[.string a0] w fun e w' => e = .returned (.bool r) ∧ Below w.heap.size w w' := by
 have HB := Aside0.mk (Below.refl w.heap.size w)
 have H : ((saltuslaw06_cut.f a0).bind fun t152 => ((aes_Keys.f t152).bind fun bt153 => ((saltusref06_Key.f t152).bind fun t157 => (if t157 = true then ((saltuslaw06_alive.f).bind fun t158 => (if t158 = true then (if bt153.2 = 0 then ((saltusref06_Keys.f k t152).bind fun t159 => ((saltusref04_Same.f k bt153.1 t159).bind fun t162 => (some t162))) else (some false)) else (some false))) else ((saltuslaw06_alive.f).bind fun t163 => (if t163 = true then (if bt153.2 = 4 then (some ((bt153.1.length : Int) == 0)) else (some false)) else (some false))))))) = some r := h
 clear h
 replace H := Option.bind_eq_some_iff.mp H
 obtain ⟨t152, A20, H⟩ := H
 (try dsimp only at H)
 have A2 := Aside0.mk A20
 clear A20
 replace H := Option.bind_eq_some_iff.mp H
 obtain ⟨⟨t153, t154⟩, A30, H⟩ := H
 (try dsimp only at H)
 have A3 := Aside0.mk A30
 clear A30
 replace H := Option.bind_eq_some_iff.mp H
 obtain ⟨t157, A40, H⟩ := H
 (try dsimp only at H)
 have A4 := Aside0.mk A40
 clear A40
 by_cases c5 : t157 = true
 ·subst c5
  have H1 : ((saltuslaw06_alive.f).bind fun t158 => (if t158 = true then (if t154 = 0 then ((saltusref06_Keys.f k t152).bind fun t159 => ((saltusref04_Same.f k t153 t159).bind fun t162 => (some t162))) else (some false)) else (some false))) = some r := by rw [if_pos rfl] at H; exact H
  clear H
  have H := H1
  clear H1
  replace H := Option.bind_eq_some_iff.mp H
  obtain ⟨t158, A60, H⟩ := H
  (try dsimp only at H)
  have A6 := Aside0.mk A60
  clear A60
  by_cases c7 : t158 = true
  ·subst c7
   have H1 : (if t154 = 0 then ((saltusref06_Keys.f k t152).bind fun t159 => ((saltusref04_Same.f k t153 t159).bind fun t162 => (some t162))) else (some false)) = some r := by rw [if_pos rfl] at H; exact H
   clear H
   have H := H1
   clear H1
   by_cases c8 : t154 = 0
   ·rw [if_pos c8] at H
    have c8b0 : (t154 == 0) = true := beq_iff_eq.mpr c8
    have c8b1 : (t154 != 0) = false := bne_eq_false_iff_eq.mpr c8
    clear c8
    replace H := Option.bind_eq_some_iff.mp H
    obtain ⟨t159, A90, H⟩ := H
    (try dsimp only at H)
    have A9 := Aside0.mk A90
    clear A90
    replace H := Option.bind_eq_some_iff.mp H
    obtain ⟨t162, A100, H⟩ := H
    (try dsimp only at H)
    have A10 := Aside0.mk A100
    clear A100
    obtain rfl := Option.some.inj H
    go_enter Try.func9, Try.ntmps9
    go_wp2_with (first | ((with_reducible refine gate_callee (f := 23) rfl ?_); refine goesL_ (some 6) rfl rfl Try.func23 (by kernel_rfl) rfl #[.string a0] rfl (by (try simp only [List.map_toArray, List.map_cons, List.map_nil]); first | done | rfl | (simp only [List.length_drop, List.length_take]; rfl)) ?_; (with_reducible refine (saltuslaw06_cut.calls a0 t152 _ A2.out).mono ?_); rintro e w11 ⟨rfl, hb⟩; refine ⟨_, rfl, ?_⟩; have n0_ := Aside0.mk (below_step (by repeat (first | (with_reducible first | exact HB.out | apply below_alloc | apply pw_below_drewN | apply below_drew1) | exact HB.out)) hb); clear HB; have HB := n0_; clear n0_; (try clear hb); (try clear hb2); (try clear hk); (try clear hi)) | ((with_reducible refine gate_callee (f := 31) rfl ?_); refine goesL_ (some 9) rfl rfl Try.func31 (by kernel_rfl) rfl #[.string t152] rfl (by (try simp only [List.map_toArray, List.map_cons, List.map_nil]); first | done | rfl | (simp only [List.length_drop, List.length_take]; rfl)) ?_; (with_reducible refine (aes_Keys.calls t152 t153 t154 _ A3.out).mono ?_); rintro e w12 ⟨v155, rfl, ho0, hb⟩; refine ⟨_, rfl, ?_⟩; have n0_ := Aside0.mk (Kd.R_lower ho0 (below_size (by repeat (first | (with_reducible first | exact HB.out | apply below_alloc | apply pw_below_drewN | apply below_drew1) | exact HB.out)))); have n1_ := Aside0.mk (below_step (by repeat (first | (with_reducible first | exact HB.out | apply below_alloc | apply pw_below_drewN | apply below_drew1) | exact HB.out)) hb); clear HB; have HO156 := n0_; have HB := n1_; clear n0_ n1_; (try clear hb); (try clear hb2); (try clear hk); (try clear hi); (try clear ho0)) | ((with_reducible refine gate_callee (f := 32) rfl ?_); refine goesL_ (some 13) rfl rfl Try.func32 (by kernel_rfl) rfl #[.string t152] rfl (by (try simp only [List.map_toArray, List.map_cons, List.map_nil]); first | done | rfl | (simp only [List.length_drop, List.length_take]; rfl)) ?_; (with_reducible refine (saltusref06_Key.calls t152 true _ A4.out).mono ?_); rintro e w' ⟨rfl, ⟨nd, rfl⟩⟩; refine ⟨_, rfl, ?_⟩) | ((with_reducible refine gate_callee (f := 27) rfl ?_); refine goesL_ (some 25) rfl rfl Try.func27 (by kernel_rfl) rfl #[] rfl (by (try simp only [List.map_toArray, List.map_cons, List.map_nil]); first | done | rfl | (simp only [List.length_drop, List.length_take]; rfl)) ?_; (with_reducible refine (saltuslaw06_alive.calls  true _ A6.out).mono ?_); rintro e w13 ⟨rfl, hb⟩; refine ⟨_, rfl, ?_⟩; have n0_ := Aside0.mk (Kd.R_below (by (with_reducible repeat (first | apply Kd.R_alloc | apply Kd.R_drewN | apply Kd.R_drew)); exact HO156.out) hb); have n1_ := Aside0.mk (below_step (by repeat (first | (with_reducible first | exact HB.out | apply below_alloc | apply pw_below_drewN | apply below_drew1) | exact HB.out)) hb); clear HO156; clear HB; have HO156 := n0_; have HB := n1_; clear n0_ n1_; (try clear hb); (try clear hb2); (try clear hk); (try clear hi)) | (go_at_call 34; (with_reducible refine (saltusref06_Keys.calls k t152 t159 _ A9.out).mono ?_); rintro e w14 ⟨v160, rfl, ho0, hb⟩; have n0_ := Aside0.mk (Kd.R_elder' (by (with_reducible repeat (first | apply Kd.R_alloc | apply Kd.R_drewN | apply Kd.R_drew)); exact HO156.out) (Kd.R_base ho0) hb); have n1_ := Aside0.mk (Kd.R_lower (Kd.R_new' ho0 (Kd.R_lt (by (with_reducible repeat (first | apply Kd.R_alloc | apply Kd.R_drewN | apply Kd.R_drew)); exact HO156.out))) (below_size (by repeat (first | (with_reducible first | exact HB.out | apply below_alloc | apply pw_below_drewN | apply below_drew1) | exact HB.out)))); have n2_ := Aside0.mk (below_step (by repeat (first | (with_reducible first | exact HB.out | apply below_alloc | apply pw_below_drewN | apply below_drew1) | exact HB.out)) hb); clear HO156; clear HB; have HO156 := n0_; have HO161 := n1_; have HB := n2_; clear n0_ n1_ n2_; (try clear hb); (try clear hb2); (try clear hk); (try clear hi); (try clear ho0); obtain ⟨Ao15, co15, eo15⟩ := Kd.R_slice HO156.out; subst eo15; obtain ⟨Ao16, co16, eo16⟩ := Kd.R_slice HO161.out; subst eo16) | (go_at_call 33; (with_reducible refine (saltusref04_Same.calls k _ _ t153 _ _ t159 t162 _ ?side1 ?side2 ?side3 ?side4 A10.out).mono ?_); (case side1 => repeat (first | exact (Kd.R_reads' HO156.out).2.2 | (with_reducible refine Kd.C_alloc ?_ _) | (with_reducible refine Kd.C_drewN ?_ _) | (with_reducible refine Kd.C_drew ?_))); (case side2 => exact (Kd.R_reads' HO156.out).2.1); (case side3 => repeat (first | exact (Kd.R_reads' HO161.out).2.2 | (with_reducible refine Kd.C_alloc ?_ _) | (with_reducible refine Kd.C_drewN ?_ _) | (with_reducible refine Kd.C_drew ?_))); (case side4 => exact (Kd.R_reads' HO161.out).2.1); rintro e w' ⟨rfl, ⟨nd, rfl⟩⟩))
    go_ret
    exact ⟨by first | rfl | (simp [errW_none, errW_some] <;> rfl) | (simp [*, errW_none, errW_some] <;> rfl), by repeat (first | (with_reducible first | exact HB.out | apply below_alloc | apply pw_below_drewN | apply below_drew1) | exact HB.out)⟩
   ·rw [if_neg c8] at H
    have c8b0 : (t154 == 0) = false := beq_eq_false_iff_ne.mpr c8
    have c8b1 : (t154 != 0) = true := bne_iff_ne.mpr c8
    exact absurd ((Option.some.inj H).trans hr.out) (by decide)
  ·replace c7 := Bool.eq_false_iff.mpr c7
   subst c7
   have H1 : (some false) = some r := by rw [if_neg (show ¬ (false = true) by decide)] at H; exact H
   clear H
   have H := H1
   clear H1
   exact absurd ((Option.some.inj H).trans hr.out) (by decide)
 ·replace c5 := Bool.eq_false_iff.mpr c5
  subst c5
  have H1 : ((saltuslaw06_alive.f).bind fun t163 => (if t163 = true then (if t154 = 4 then (some ((t153.length : Int) == 0)) else (some false)) else (some false))) = some r := by rw [if_neg (show ¬ (false = true) by decide)] at H; exact H
  clear H
  have H := H1
  clear H1
  replace H := Option.bind_eq_some_iff.mp H
  obtain ⟨t163, A170, H⟩ := H
  (try dsimp only at H)
  have A17 := Aside0.mk A170
  clear A170
  by_cases c18 : t163 = true
  ·subst c18
   have H1 : (if t154 = 4 then (some ((t153.length : Int) == 0)) else (some false)) = some r := by rw [if_pos rfl] at H; exact H
   clear H
   have H := H1
   clear H1
   by_cases c19 : t154 = 4
   ·rw [if_pos c19] at H
    have c19b0 : (t154 == 4) = true := beq_iff_eq.mpr c19
    have c19b1 : (t154 != 4) = false := bne_eq_false_iff_eq.mpr c19
    clear c19
    obtain rfl := Option.some.inj H
    go_enter Try.func9, Try.ntmps9
    go_wp2_with (first | ((with_reducible refine gate_callee (f := 23) rfl ?_); refine goesL_ (some 6) rfl rfl Try.func23 (by kernel_rfl) rfl #[.string a0] rfl (by (try simp only [List.map_toArray, List.map_cons, List.map_nil]); first | done | rfl | (simp only [List.length_drop, List.length_take]; rfl)) ?_; (with_reducible refine (saltuslaw06_cut.calls a0 t152 _ A2.out).mono ?_); rintro e w20 ⟨rfl, hb⟩; refine ⟨_, rfl, ?_⟩; have n0_ := Aside0.mk (below_step (by repeat (first | (with_reducible first | exact HB.out | apply below_alloc | apply pw_below_drewN | apply below_drew1) | exact HB.out)) hb); clear HB; have HB := n0_; clear n0_; (try clear hb); (try clear hb2); (try clear hk); (try clear hi)) | ((with_reducible refine gate_callee (f := 31) rfl ?_); refine goesL_ (some 9) rfl rfl Try.func31 (by kernel_rfl) rfl #[.string t152] rfl (by (try simp only [List.map_toArray, List.map_cons, List.map_nil]); first | done | rfl | (simp only [List.length_drop, List.length_take]; rfl)) ?_; (with_reducible refine (aes_Keys.calls t152 t153 t154 _ A3.out).mono ?_); rintro e w21 ⟨v155, rfl, ho0, hb⟩; refine ⟨_, rfl, ?_⟩; have n0_ := Aside0.mk (Kd.R_lower ho0 (below_size (by repeat (first | (with_reducible first | exact HB.out | apply below_alloc | apply pw_below_drewN | apply below_drew1) | exact HB.out)))); have n1_ := Aside0.mk (below_step (by repeat (first | (with_reducible first | exact HB.out | apply below_alloc | apply pw_below_drewN | apply below_drew1) | exact HB.out)) hb); clear HB; have HO156 := n0_; have HB := n1_; clear n0_ n1_; (try clear hb); (try clear hb2); (try clear hk); (try clear hi); (try clear ho0)) | ((with_reducible refine gate_callee (f := 32) rfl ?_); refine goesL_ (some 13) rfl rfl Try.func32 (by kernel_rfl) rfl #[.string t152] rfl (by (try simp only [List.map_toArray, List.map_cons, List.map_nil]); first | done | rfl | (simp only [List.length_drop, List.length_take]; rfl)) ?_; (with_reducible refine (saltusref06_Key.calls t152 false _ A4.out).mono ?_); rintro e w' ⟨rfl, ⟨nd, rfl⟩⟩; refine ⟨_, rfl, ?_⟩) | ((with_reducible refine gate_callee (f := 27) rfl ?_); refine goesL_ (some 15) rfl rfl Try.func27 (by kernel_rfl) rfl #[] rfl (by (try simp only [List.map_toArray, List.map_cons, List.map_nil]); first | done | rfl | (simp only [List.length_drop, List.length_take]; rfl)) ?_; (with_reducible refine (saltuslaw06_alive.calls  true _ A17.out).mono ?_); rintro e w22 ⟨rfl, hb⟩; refine ⟨_, rfl, ?_⟩; have n0_ := Aside0.mk (Kd.R_below (by (with_reducible repeat (first | apply Kd.R_alloc | apply Kd.R_drewN | apply Kd.R_drew)); exact HO156.out) hb); have n1_ := Aside0.mk (below_step (by repeat (first | (with_reducible first | exact HB.out | apply below_alloc | apply pw_below_drewN | apply below_drew1) | exact HB.out)) hb); clear HO156; clear HB; have HO156 := n0_; have HB := n1_; clear n0_ n1_; (try clear hb); (try clear hb2); (try clear hk); (try clear hi); obtain ⟨Ao23, co23, eo23⟩ := Kd.R_slice HO156.out; subst eo23))
    go_ret
    exact ⟨by first | rfl | (simp [errW_none, errW_some] <;> rfl) | (simp [*, errW_none, errW_some] <;> rfl), by repeat (first | (with_reducible first | exact HB.out | apply below_alloc | apply pw_below_drewN | apply below_drew1) | exact HB.out)⟩
   ·rw [if_neg c19] at H
    have c19b0 : (t154 == 4) = false := beq_eq_false_iff_ne.mpr c19
    have c19b1 : (t154 != 4) = true := bne_iff_ne.mpr c19
    exact absurd ((Option.some.inj H).trans hr.out) (by decide)
  ·replace c18 := Bool.eq_false_iff.mpr c18
   subst c18
   have H1 : (some false) = some r := by rw [if_neg (show ¬ (false = true) by decide)] at H; exact H
   clear H
   have H := H1
   clear H1
   exact absurd ((Option.some.inj H).trans hr.out) (by decide)
def saltuslaw06_AesKeys.Pure : Prop := ∀ (a0 : ByteArray), a0.size ≤ 140737488351232 → ∃ k, saltuslaw06_AesKeys.f k a0 = some true
theorem saltuslaw06_AesKeys.walk (P : saltuslaw06_AesKeys.Pure) (a0 : ByteArray) (w : World) (w0 : a0.size ≤ 140737488351232) :
  Calls Try.prog 9 #[.string a0] w fun e w' => e = .returned (.bool true) ∧ Below w.heap.size w w' := by
 obtain ⟨k, h⟩ := P a0 w0
 refine (saltuslaw06_AesKeys.calls k a0 true w ⟨rfl⟩ h).mono ?_
 rintro e w' ⟨rfl, hd⟩
 exact ⟨rfl, hd⟩
/-! ### saltusref06_Why: function 36 -/
def saltusref06_Why.f (a0 : ByteArray) (a1 : ByteArray) : Option (Int) := (saltusref06_Key.f a0).bind fun t164 => (if t164 = true then (if (a1.size : Int) = 16 then (some 0) else (some 4)) else (some 4))
set_option maxHeartbeats 8000000 in
set_option maxRecDepth 100000 in
theorem saltusref06_Why.calls (a0 : ByteArray) (a1 : ByteArray) (r : Int) (w : World) (h : saltusref06_Why.f a0 a1 = some r) :
  Calls Try.prog 36 #[.string a0, .string a1] w fun e w' => e = .returned (.int .i64 r) ∧ Drawn0 w w' := by
 have H : ((saltusref06_Key.f a0).bind fun t164 => (if t164 = true then (if (a1.size : Int) = 16 then (some 0) else (some 4)) else (some 4))) = some r := h
 clear h
 replace H := Option.bind_eq_some_iff.mp H
 obtain ⟨t164, A30, H⟩ := H
 (try dsimp only at H)
 have A3 := Aside0.mk A30
 clear A30
 by_cases c4 : t164 = true
 ·subst c4
  have H1 : (if (a1.size : Int) = 16 then (some 0) else (some 4)) = some r := by rw [if_pos rfl] at H; exact H
  clear H
  have H := H1
  clear H1
  by_cases c5 : (a1.size : Int) = 16
  ·rw [if_pos c5] at H
   have c5b0 : ((a1.size : Int) == 16) = true := beq_iff_eq.mpr c5
   have c5b1 : ((a1.size : Int) != 16) = false := bne_eq_false_iff_eq.mpr c5
   clear c5
   obtain rfl := Option.some.inj H
   go_enter Try.func36, Try.ntmps36
   go_wp2_with (first | ((with_reducible refine gate_callee (f := 32) rfl ?_); refine goesL_ (some 6) rfl rfl Try.func32 (by kernel_rfl) rfl #[.string a0] rfl (by (try simp only [List.map_toArray, List.map_cons, List.map_nil]); first | done | rfl | (simp only [List.length_drop, List.length_take]; rfl)) ?_; (with_reducible refine (saltusref06_Key.calls a0 true _ A3.out).mono ?_); rintro e w' ⟨rfl, ⟨nd, rfl⟩⟩; refine ⟨_, rfl, ?_⟩))
   go_ret
   exact ⟨by first | rfl | (simp; done) | (simp [*]; done), by repeat (first | exact Drawn0.refl _ | apply Drawn0.step)⟩
  ·rw [if_neg c5] at H
   have c5b0 : ((a1.size : Int) == 16) = false := beq_eq_false_iff_ne.mpr c5
   have c5b1 : ((a1.size : Int) != 16) = true := bne_iff_ne.mpr c5
   obtain rfl := Option.some.inj H
   go_enter Try.func36, Try.ntmps36
   go_wp2_with (first | ((with_reducible refine gate_callee (f := 32) rfl ?_); refine goesL_ (some 6) rfl rfl Try.func32 (by kernel_rfl) rfl #[.string a0] rfl (by (try simp only [List.map_toArray, List.map_cons, List.map_nil]); first | done | rfl | (simp only [List.length_drop, List.length_take]; rfl)) ?_; (with_reducible refine (saltusref06_Key.calls a0 true _ A3.out).mono ?_); rintro e w' ⟨rfl, ⟨nd, rfl⟩⟩; refine ⟨_, rfl, ?_⟩))
   go_ret
   exact ⟨by first | rfl | (simp; done) | (simp [*]; done), by repeat (first | exact Drawn0.refl _ | apply Drawn0.step)⟩
 ·replace c4 := Bool.eq_false_iff.mpr c4
  subst c4
  have H1 : (some 4) = some r := by rw [if_neg (show ¬ (false = true) by decide)] at H; exact H
  clear H
  have H := H1
  clear H1
  obtain rfl := Option.some.inj H
  go_enter Try.func36, Try.ntmps36
  go_wp2_with (first | ((with_reducible refine gate_callee (f := 32) rfl ?_); refine goesL_ (some 6) rfl rfl Try.func32 (by kernel_rfl) rfl #[.string a0] rfl (by (try simp only [List.map_toArray, List.map_cons, List.map_nil]); first | done | rfl | (simp only [List.length_drop, List.length_take]; rfl)) ?_; (with_reducible refine (saltusref06_Key.calls a0 false _ A3.out).mono ?_); rintro e w' ⟨rfl, ⟨nd, rfl⟩⟩; refine ⟨_, rfl, ?_⟩))
  go_ret
  exact ⟨by first | rfl | (simp; done) | (simp [*]; done), by repeat (first | exact Drawn0.refl _ | apply Drawn0.step)⟩
/-! ### saltusref06_Encrypt: function 37 -/
def saltusref06_Encrypt.l0 : Nat → List ByteArray → ByteArray → Int → Option (ByteArray)
 | 0, _, _, _ => none
 | k + 1, x5, x6, x7 => if x7 < (x5.length : Int) then ((saltusref06_Boxed.f x6).bind fun t170 => ((saltusref06_Turned.f t170).bind fun t171 => (if (wrap64 (x7 + 1)) < (x5.length : Int) then ((saltusref06_Mixed.f t171).bind fun t172 => (if 0 ≤ x7 then ((saltusref06_Xor.f k t172 (rdOf ByteArray.empty x5 x7)).bind fun t174 => (saltusref06_Encrypt.l0 k x5 t174 (wrap64 (x7 + 1)))) else (none))) else (if 0 ≤ x7 then ((saltusref06_Xor.f k t171 (rdOf ByteArray.empty x5 x7)).bind fun t176 => (saltusref06_Encrypt.l0 k x5 t176 (wrap64 (x7 + 1)))) else (none))))) else (some x6)
def saltusref06_Encrypt.f (k : Nat) (a0 : ByteArray) (a1 : ByteArray) : Option (ByteArray) := (saltusref06_Keys.f k a0).bind fun t165 => (if 0 < (t165.length : Int) then ((saltusref06_Xor.f k a1 (rdOf ByteArray.empty t165 0)).bind fun t169 => (saltusref06_Encrypt.l0 k t165 t169 1)) else (none))
theorem saltusref06_Encrypt.mono_l : ∀ k, (∀ y0 y1 y2, LeO (saltusref06_Encrypt.l0 k y0 y1 y2) (saltusref06_Encrypt.l0 (k + 1) y0 y1 y2))
 | 0 => fun _ _ _ r h => by simp [saltusref06_Encrypt.l0] at h
 | k + 1 => by
  have ih0 := saltusref06_Encrypt.mono_l k
  ·intro y0 y1 y2
   unfold saltusref06_Encrypt.l0
   repeat' first
   | (with_reducible exact ih0 _ _ _)
   | (with_reducible exact saltusref06_Keys.mono _ _)
   | (with_reducible exact saltusref06_Xor.mono _ _ _)
   | (with_reducible exact LeO.refl _)
   | (with_reducible exact LeO.none _)
   | (with_reducible refine LeO.ite ?_ ?_)
   | (with_reducible refine LeO.bind ?_ (fun _ => ?_))
   | exact ih0 _ _ _
   | exact saltusref06_Keys.mono _ _
   | exact saltusref06_Xor.mono _ _ _
   | exact LeO.none _
   | refine LeO.ite ?_ ?_
   | refine LeO.bind ?_ (fun _ => ?_)
theorem saltusref06_Encrypt.mono : ∀ a0 a1 k, LeO (saltusref06_Encrypt.f k a0 a1) (saltusref06_Encrypt.f (k + 1) a0 a1) := by
 intro a0 a1 k
 have ih0 := saltusref06_Encrypt.mono_l k
 unfold saltusref06_Encrypt.f
 repeat' first
   | (with_reducible exact ih0 _ _ _)
   | (with_reducible exact saltusref06_Keys.mono _ _)
   | (with_reducible exact saltusref06_Xor.mono _ _ _)
   | (with_reducible exact LeO.refl _)
   | (with_reducible exact LeO.none _)
   | (with_reducible refine LeO.ite ?_ ?_)
   | (with_reducible refine LeO.bind ?_ (fun _ => ?_))
   | exact ih0 _ _ _
   | exact saltusref06_Keys.mono _ _
   | exact saltusref06_Xor.mono _ _ _
   | exact LeO.none _
   | refine LeO.ite ?_ ?_
   | refine LeO.bind ?_ (fun _ => ?_)
set_option maxHeartbeats 8000000 in
set_option maxRecDepth 100000 in
theorem saltusref06_Encrypt.calls (k : Nat) (a0 : ByteArray) (a1 : ByteArray) (r : ByteArray) (w : World) (h : saltusref06_Encrypt.f k a0 a1 = some r) :
  Calls Try.prog 37 #[.string a0, .string a1] w fun e w' => e = .returned (.string r) ∧ Below w.heap.size w w' := by
 have HB := Aside0.mk (Below.refl w.heap.size w)
 have H : ((saltusref06_Keys.f k a0).bind fun t165 => (if 0 < (t165.length : Int) then ((saltusref06_Xor.f k a1 (rdOf ByteArray.empty t165 0)).bind fun t169 => (saltusref06_Encrypt.l0 k t165 t169 1)) else (none))) = some r := h
 clear h
 replace H := Option.bind_eq_some_iff.mp H
 obtain ⟨t165, A30, H⟩ := H
 (try dsimp only at H)
 have A3 := Aside0.mk A30
 clear A30
 by_cases c4 : 0 < (t165.length : Int)
 ·rw [if_pos c4] at H
  have c4b0 : decide (0 < (t165.length : Int)) = true := decide_eq_true c4
  have c4b1 : decide (0 < t165.length) = true := decide_eq_true (by omega)
  clear c4
  replace H := Option.bind_eq_some_iff.mp H
  obtain ⟨t169, A50, H⟩ := H
  (try dsimp only at H)
  have A5 := Aside0.mk A50
  clear A50
  have H' := Aside0.mk H
  clear H
  go_enter Try.func37, Try.ntmps37
  go_wp2_with (first | ((with_reducible refine gate_callee (f := 34) rfl ?_); refine goesL_ (some 9) rfl rfl Try.func34 (by kernel_rfl) rfl #[.string a0] rfl (by (try simp only [List.map_toArray, List.map_cons, List.map_nil]); first | done | rfl | (simp only [List.length_drop, List.length_take]; rfl)) ?_; (with_reducible refine (saltusref06_Keys.calls k a0 t165 _ A3.out).mono ?_); rintro e w6 ⟨v166, rfl, ho0, hb⟩; refine ⟨_, rfl, ?_⟩; have n0_ := Aside0.mk (Kd.R_lower ho0 (below_size (by repeat (first | (with_reducible first | exact HB.out | apply below_alloc | apply pw_below_drewN | apply below_drew1) | exact HB.out)))); have n1_ := Aside0.mk (below_step (by repeat (first | (with_reducible first | exact HB.out | apply below_alloc | apply pw_below_drewN | apply below_drew1) | exact HB.out)) hb); clear HB; have HO167 := n0_; have HB := n1_; clear n0_ n1_; (try clear hb); (try clear hb2); (try clear hk); (try clear hi); (try clear ho0); obtain ⟨Ao7, co7, eo7⟩ := Kd.R_slice HO167.out; subst eo7; have p168 : 0 ≤ (0 : Int) := (by omega); have q168 : 0 < (t165.length : Int) := of_decide_eq_true (by first | (with_reducible assumption) | assumption); obtain ⟨ad168, e168, hx168_0⟩ := Kd.at_string (Kd.R_reads' HO167.out).2.2 0 p168 q168; cases e168; have qi168 : (0 < t165.length) = True := eq_true (by omega); (try rw [show ((0 : Int)).toNat = 0 from rfl] at hx168_0); (try rw [Addr.add_zero'] at hx168_0); replace p168 := eq_true p168; replace q168 := eq_true q168) | ((with_reducible refine gate_callee (f := 57) rfl ?_); refine goesL_ (some 14) rfl rfl Try.func57 (by kernel_rfl) rfl #[.string a1, .string (rdOf ByteArray.empty t165 0)] rfl (by (try simp only [List.map_toArray, List.map_cons, List.map_nil]); first | done | rfl | (simp only [List.length_drop, List.length_take]; rfl)) ?_; (with_reducible refine (saltusref06_Xor.calls k a1 (rdOf ByteArray.empty t165 0) t169 _ A5.out).mono ?_); rintro e w8 ⟨rfl, hb⟩; refine ⟨_, rfl, ?_⟩; have n0_ := Aside0.mk (Kd.R_below (by (with_reducible repeat (first | apply Kd.R_alloc | apply Kd.R_drewN | apply Kd.R_drew)); exact HO167.out) hb); have n1_ := Aside0.mk (below_step (by repeat (first | (with_reducible first | exact HB.out | apply below_alloc | apply pw_below_drewN | apply below_drew1) | exact HB.out)) hb); clear HO167; clear HB; have HO167 := n0_; have HB := n1_; clear n0_ n1_; (try clear hb); (try clear hb2); (try clear hk); (try clear hi)))
  go_loopg [6, 7] k (fun kq v6 v7 w' => ∃ (x6_1 : ByteArray) (x7_1 : Int), v6 = .string x6_1 ∧ v7 = .int .i64 x7_1 ∧ Aside0 (saltusref06_Encrypt.l0 kq t165 x6_1 x7_1 = some r) ∧ Aside0 (kq ≤ k) ∧ Aside0 (Kd.R Kd.string 9 w' w.heap.size (fun _ => True) (.slice (some ad168) t165.length co7) t165) ∧ Aside0 (Below w.heap.size w w'))
  case atStart => exact ⟨(t169), (1), (by first | rfl | (simp; done) | (simp [*]; done)), (by first | rfl | (simp; done) | (simp [*]; done)), H', ⟨Nat.le_refl _⟩, ⟨by (with_reducible repeat (first | apply Kd.R_alloc | apply Kd.R_drewN | apply Kd.R_drew)); exact HO167.out⟩, ⟨by repeat (first | (with_reducible first | exact HB.out | apply below_alloc | apply pw_below_drewN | apply below_drew1) | exact HB.out)⟩⟩
  case round =>
   clear H'
   try clear p1
   try clear q1
   try clear hx1
   try clear qi1
   try clear p2
   try clear c3
   try clear c4
   try clear c4b0
   try clear c4b1
   try clear c5
   try clear hx168_0
   try clear p168
   try clear q168
   obtain ⟨x6_1, x7_1, rfl, rfl, HA, HK1, HO_5, HB⟩ := hrel
   cases gk with
   | zero => exact absurd HA.out (by simp [saltusref06_Encrypt.l0])
   | succ k1 =>
    have H := HA.out
    clear HA
    simp only [saltusref06_Encrypt.l0] at H
    by_cases c9 : x7_1 < (t165.length : Int)
    ·rw [if_pos c9] at H
     have c9b0 : decide (x7_1 < (t165.length : Int)) = true := decide_eq_true c9
     clear c9
     replace H := Option.bind_eq_some_iff.mp H
     obtain ⟨t170, A100, H⟩ := H
     (try dsimp only at H)
     have A10 := Aside0.mk A100
     clear A100
     replace H := Option.bind_eq_some_iff.mp H
     obtain ⟨t171, A110, H⟩ := H
     (try dsimp only at H)
     have A11 := Aside0.mk A110
     clear A110
     by_cases c12 : (wrap64 (x7_1 + 1)) < (t165.length : Int)
     ·rw [if_pos c12] at H
      have c12b0 : decide ((wrap64 (x7_1 + 1)) < (t165.length : Int)) = true := decide_eq_true c12
      clear c12
      replace H := Option.bind_eq_some_iff.mp H
      obtain ⟨t172, A130, H⟩ := H
      (try dsimp only at H)
      have A13 := Aside0.mk A130
      clear A130
      by_cases c14 : 0 ≤ x7_1
      ·rw [if_pos c14] at H
       have c14b0 : decide (0 ≤ x7_1) = true := decide_eq_true c14
       clear c14
       replace H := Option.bind_eq_some_iff.mp H
       obtain ⟨t174, A150, H⟩ := H
       (try dsimp only at H)
       have A15 := Aside0.mk A150
       clear A150
       have H' := Aside0.mk H
       clear H
       go_wp2_with (first | ((with_reducible refine gate_callee (f := 28) rfl ?_); refine goesL_ (some 22) rfl rfl Try.func28 (by kernel_rfl) rfl #[.string x6_1] rfl (by (try simp only [List.map_toArray, List.map_cons, List.map_nil]); first | done | rfl | (simp only [List.length_drop, List.length_take]; rfl)) ?_; (with_reducible refine (saltusref06_Boxed.calls x6_1 t170 _ A10.out).mono ?_); rintro e w16 ⟨rfl, hb⟩; refine ⟨_, rfl, ?_⟩; have n0_ := Aside0.mk (Kd.R_below (by (with_reducible repeat (first | apply Kd.R_alloc | apply Kd.R_drewN | apply Kd.R_drew)); exact HO_5.out) hb); have n1_ := Aside0.mk (below_step (by repeat (first | (with_reducible first | exact HB.out | apply below_alloc | apply pw_below_drewN | apply below_drew1) | exact HB.out)) hb); clear HO_5; clear HB; have HO_5 := n0_; have HB := n1_; clear n0_ n1_; (try clear hb); (try clear hb2); (try clear hk); (try clear hi)) | ((with_reducible refine gate_callee (f := 29) rfl ?_); refine goesL_ (some 23) rfl rfl Try.func29 (by kernel_rfl) rfl #[.string t170] rfl (by (try simp only [List.map_toArray, List.map_cons, List.map_nil]); first | done | rfl | (simp only [List.length_drop, List.length_take]; rfl)) ?_; (with_reducible refine (saltusref06_Turned.calls t170 t171 _ A11.out).mono ?_); rintro e w17 ⟨rfl, hb⟩; refine ⟨_, rfl, ?_⟩; have n0_ := Aside0.mk (Kd.R_below (by (with_reducible repeat (first | apply Kd.R_alloc | apply Kd.R_drewN | apply Kd.R_drew)); exact HO_5.out) hb); have n1_ := Aside0.mk (below_step (by repeat (first | (with_reducible first | exact HB.out | apply below_alloc | apply pw_below_drewN | apply below_drew1) | exact HB.out)) hb); clear HO_5; clear HB; have HO_5 := n0_; have HB := n1_; clear n0_ n1_; (try clear hb); (try clear hb2); (try clear hk); (try clear hi)) | ((with_reducible refine gate_callee (f := 30) rfl ?_); refine goesL_ (some 30) rfl rfl Try.func30 (by kernel_rfl) rfl #[.string t171] rfl (by (try simp only [List.map_toArray, List.map_cons, List.map_nil]); first | done | rfl | (simp only [List.length_drop, List.length_take]; rfl)) ?_; (with_reducible refine (saltusref06_Mixed.calls t171 t172 _ A13.out).mono ?_); rintro e w18 ⟨rfl, hb⟩; refine ⟨_, rfl, ?_⟩; have n0_ := Aside0.mk (Kd.R_below (by (with_reducible repeat (first | apply Kd.R_alloc | apply Kd.R_drewN | apply Kd.R_drew)); exact HO_5.out) hb); have n1_ := Aside0.mk (below_step (by repeat (first | (with_reducible first | exact HB.out | apply below_alloc | apply pw_below_drewN | apply below_drew1) | exact HB.out)) hb); clear HO_5; clear HB; have HO_5 := n0_; have HB := n1_; clear n0_ n1_; (try clear hb); (try clear hb2); (try clear hk); (try clear hi); have p173 : 0 ≤ (x7_1 : Int) := of_decide_eq_true (by first | (with_reducible assumption) | assumption); have q173 : x7_1 < (t165.length : Int) := of_decide_eq_true (by first | (with_reducible assumption) | assumption); obtain ⟨ad173, e173, hx173_0⟩ := Kd.at_string (Kd.R_reads' HO_5.out).2.2 x7_1 p173 q173; obtain rfl : ad168 = ad173 := (by injection e173); replace p173 := eq_true p173; replace q173 := eq_true q173) | ((with_reducible refine gate_callee (f := 57) rfl ?_); refine goesL_ (some 36) rfl rfl Try.func57 (by kernel_rfl) rfl #[.string t172, .string (rdOf ByteArray.empty t165 x7_1)] rfl (by (try simp only [List.map_toArray, List.map_cons, List.map_nil]); first | done | rfl | (simp only [List.length_drop, List.length_take]; rfl)) ?_; (with_reducible refine (saltusref06_Xor.calls k1 t172 (rdOf ByteArray.empty t165 x7_1) t174 _ A15.out).mono ?_); rintro e w19 ⟨rfl, hb⟩; refine ⟨_, rfl, ?_⟩; have n0_ := Aside0.mk (Kd.R_below (by (with_reducible repeat (first | apply Kd.R_alloc | apply Kd.R_drewN | apply Kd.R_drew)); exact HO_5.out) hb); have n1_ := Aside0.mk (below_step (by repeat (first | (with_reducible first | exact HB.out | apply below_alloc | apply pw_below_drewN | apply below_drew1) | exact HB.out)) hb); clear HO_5; clear HB; have HO_5 := n0_; have HB := n1_; clear n0_ n1_; (try clear hb); (try clear hb2); (try clear hk); (try clear hi)))
       go_roundg k1
       case measure => have := HK1.out; omega
       case rel => exact ⟨(t174), (wrap64 (x7_1 + 1)), (by first | rfl | (simp; done) | (simp [*]; done)), (by first | rfl | (simp; done) | (simp [*]; done)), H', ⟨by have := HK1.out; omega⟩, ⟨by (with_reducible repeat (first | apply Kd.R_alloc | apply Kd.R_drewN | apply Kd.R_drew)); exact HO_5.out⟩, ⟨by repeat (first | (with_reducible first | exact HB.out | apply below_alloc | apply pw_below_drewN | apply below_drew1) | exact HB.out)⟩⟩
      ·rw [if_neg c14] at H
       exact absurd H (by simp)
     ·rw [if_neg c12] at H
      have c12b0 : decide ((wrap64 (x7_1 + 1)) < (t165.length : Int)) = false := decide_eq_false c12
      clear c12
      by_cases c20 : 0 ≤ x7_1
      ·rw [if_pos c20] at H
       have c20b0 : decide (0 ≤ x7_1) = true := decide_eq_true c20
       clear c20
       replace H := Option.bind_eq_some_iff.mp H
       obtain ⟨t176, A210, H⟩ := H
       (try dsimp only at H)
       have A21 := Aside0.mk A210
       clear A210
       have H' := Aside0.mk H
       clear H
       go_wp2_with (first | ((with_reducible refine gate_callee (f := 28) rfl ?_); refine goesL_ (some 22) rfl rfl Try.func28 (by kernel_rfl) rfl #[.string x6_1] rfl (by (try simp only [List.map_toArray, List.map_cons, List.map_nil]); first | done | rfl | (simp only [List.length_drop, List.length_take]; rfl)) ?_; (with_reducible refine (saltusref06_Boxed.calls x6_1 t170 _ A10.out).mono ?_); rintro e w22 ⟨rfl, hb⟩; refine ⟨_, rfl, ?_⟩; have n0_ := Aside0.mk (Kd.R_below (by (with_reducible repeat (first | apply Kd.R_alloc | apply Kd.R_drewN | apply Kd.R_drew)); exact HO_5.out) hb); have n1_ := Aside0.mk (below_step (by repeat (first | (with_reducible first | exact HB.out | apply below_alloc | apply pw_below_drewN | apply below_drew1) | exact HB.out)) hb); clear HO_5; clear HB; have HO_5 := n0_; have HB := n1_; clear n0_ n1_; (try clear hb); (try clear hb2); (try clear hk); (try clear hi)) | ((with_reducible refine gate_callee (f := 29) rfl ?_); refine goesL_ (some 23) rfl rfl Try.func29 (by kernel_rfl) rfl #[.string t170] rfl (by (try simp only [List.map_toArray, List.map_cons, List.map_nil]); first | done | rfl | (simp only [List.length_drop, List.length_take]; rfl)) ?_; (with_reducible refine (saltusref06_Turned.calls t170 t171 _ A11.out).mono ?_); rintro e w23 ⟨rfl, hb⟩; refine ⟨_, rfl, ?_⟩; have n0_ := Aside0.mk (Kd.R_below (by (with_reducible repeat (first | apply Kd.R_alloc | apply Kd.R_drewN | apply Kd.R_drew)); exact HO_5.out) hb); have n1_ := Aside0.mk (below_step (by repeat (first | (with_reducible first | exact HB.out | apply below_alloc | apply pw_below_drewN | apply below_drew1) | exact HB.out)) hb); clear HO_5; clear HB; have HO_5 := n0_; have HB := n1_; clear n0_ n1_; (try clear hb); (try clear hb2); (try clear hk); (try clear hi); have p175 : 0 ≤ (x7_1 : Int) := of_decide_eq_true (by first | (with_reducible assumption) | assumption); have q175 : x7_1 < (t165.length : Int) := of_decide_eq_true (by first | (with_reducible assumption) | assumption); obtain ⟨ad175, e175, hx175_0⟩ := Kd.at_string (Kd.R_reads' HO_5.out).2.2 x7_1 p175 q175; obtain rfl : ad168 = ad175 := (by injection e175); replace p175 := eq_true p175; replace q175 := eq_true q175) | ((with_reducible refine gate_callee (f := 57) rfl ?_); refine goesL_ (some 36) rfl rfl Try.func57 (by kernel_rfl) rfl #[.string t171, .string (rdOf ByteArray.empty t165 x7_1)] rfl (by (try simp only [List.map_toArray, List.map_cons, List.map_nil]); first | done | rfl | (simp only [List.length_drop, List.length_take]; rfl)) ?_; (with_reducible refine (saltusref06_Xor.calls k1 t171 (rdOf ByteArray.empty t165 x7_1) t176 _ A21.out).mono ?_); rintro e w24 ⟨rfl, hb⟩; refine ⟨_, rfl, ?_⟩; have n0_ := Aside0.mk (Kd.R_below (by (with_reducible repeat (first | apply Kd.R_alloc | apply Kd.R_drewN | apply Kd.R_drew)); exact HO_5.out) hb); have n1_ := Aside0.mk (below_step (by repeat (first | (with_reducible first | exact HB.out | apply below_alloc | apply pw_below_drewN | apply below_drew1) | exact HB.out)) hb); clear HO_5; clear HB; have HO_5 := n0_; have HB := n1_; clear n0_ n1_; (try clear hb); (try clear hb2); (try clear hk); (try clear hi)))
       go_roundg k1
       case measure => have := HK1.out; omega
       case rel => exact ⟨(t176), (wrap64 (x7_1 + 1)), (by first | rfl | (simp; done) | (simp [*]; done)), (by first | rfl | (simp; done) | (simp [*]; done)), H', ⟨by have := HK1.out; omega⟩, ⟨by (with_reducible repeat (first | apply Kd.R_alloc | apply Kd.R_drewN | apply Kd.R_drew)); exact HO_5.out⟩, ⟨by repeat (first | (with_reducible first | exact HB.out | apply below_alloc | apply pw_below_drewN | apply below_drew1) | exact HB.out)⟩⟩
      ·rw [if_neg c20] at H
       exact absurd H (by simp)
    ·rw [if_neg c9] at H
     have c9b0 : decide (x7_1 < (t165.length : Int)) = false := decide_eq_false c9
     clear c9
     obtain rfl := Option.some.inj H
     go_wp2
     go_ret
     exact ⟨by first | rfl | (simp [errW_none, errW_some] <;> rfl) | (simp [*, errW_none, errW_some] <;> rfl), by repeat (first | (with_reducible first | exact HB.out | apply below_alloc | apply pw_below_drewN | apply below_drew1) | exact HB.out)⟩
 ·rw [if_neg c4] at H
  exact absurd H (by simp)
end Go.Proofs.Ytnaidfcehmdmcaa.QAK
end
section
namespace Go.Proofs.Ytnaidfcehmdmcaa.QAK
open Go.RowKit Go.Proofs.YtnaidfcehmdmcaaW.PrintWords Go.Proofs.YtnaidfcehmdmcaaW.PrintLast Go.Proofs.YtnaidfcehmdmcaaW.PrintMore
attribute [local go_sem] max2_int min2_int max_two min_two max_three min_three max_four min_four   -- for this text's walks alone
set_option linter.unusedVariables false
set_option linter.unusedSimpArgs false
/-! ### saltuslaw06_AesEncrypts: function 10 -/
def saltuslaw06_AesEncrypts.f (k : Nat) (a0 : ByteArray) (a1 : ByteArray) : Option (Bool) := (saltuslaw06_cut.f a0).bind fun t177 => ((saltuslaw06_cut.f a1).bind fun t178 => ((aes_Encrypt.f t177 t178).bind fun bt179 => ((saltusref06_Why.f t177 t178).bind fun t181 => (if t181 = 0 then ((saltuslaw06_alive.f).bind fun t182 => (if t182 = true then (if bt179.2 = 0 then ((saltusref06_Encrypt.f k t177 t178).bind fun t183 => (some (bt179.1.toList == t183.toList))) else (some false)) else (some false))) else ((saltuslaw06_alive.f).bind fun t184 => (if t184 = true then (if bt179.2 = t181 then (some (bt179.1.toList == ([] : List UInt8))) else (some false)) else (some false)))))))
theorem saltuslaw06_AesEncrypts.mono : ∀ a0 a1 k, LeO (saltuslaw06_AesEncrypts.f k a0 a1) (saltuslaw06_AesEncrypts.f (k + 1) a0 a1) := by
 intro a0 a1 k
 unfold saltuslaw06_AesEncrypts.f
 repeat' first
   | (with_reducible exact saltusref06_Encrypt.mono _ _ _)
   | (with_reducible exact LeO.refl _)
   | (with_reducible exact LeO.none _)
   | (with_reducible refine LeO.ite ?_ ?_)
   | (with_reducible refine LeO.bind ?_ (fun _ => ?_))
   | exact saltusref06_Encrypt.mono _ _ _
   | exact LeO.none _
   | refine LeO.ite ?_ ?_
   | refine LeO.bind ?_ (fun _ => ?_)
set_option maxHeartbeats 8000000 in
set_option maxRecDepth 100000 in
theorem saltuslaw06_AesEncrypts.calls (k : Nat) (a0 : ByteArray) (a1 : ByteArray) (r : Bool) (w : World) (hr : Aside0 (r = true)) (h : saltuslaw06_AesEncrypts.f k a0 a1 = some r) :
  Calls Try.prog 10 #[.string a0, .string a1] w fun e w' => e = .returned (.bool r) ∧ Below w.heap.size w w' := by
 have HB := Aside0.mk (Below.refl w.heap.size w)
 have H : ((saltuslaw06_cut.f a0).bind fun t177 => ((saltuslaw06_cut.f a1).bind fun t178 => ((aes_Encrypt.f t177 t178).bind fun bt179 => ((saltusref06_Why.f t177 t178).bind fun t181 => (if t181 = 0 then ((saltuslaw06_alive.f).bind fun t182 => (if t182 = true then (if bt179.2 = 0 then ((saltusref06_Encrypt.f k t177 t178).bind fun t183 => (some (bt179.1.toList == t183.toList))) else (some false)) else (some false))) else ((saltuslaw06_alive.f).bind fun t184 => (if t184 = true then (if bt179.2 = t181 then (some (bt179.1.toList == ([] : List UInt8))) else (some false)) else (some false)))))))) = some r := h
 clear h
 replace H := Option.bind_eq_some_iff.mp H
 obtain ⟨t177, A30, H⟩ := H
 (try dsimp only at H)
 have A3 := Aside0.mk A30
 clear A30
 replace H := Option.bind_eq_some_iff.mp H
 obtain ⟨t178, A40, H⟩ := H
 (try dsimp only at H)
 have A4 := Aside0.mk A40
 clear A40
 replace H := Option.bind_eq_some_iff.mp H
 obtain ⟨⟨t179, t180⟩, A50, H⟩ := H
 (try dsimp only at H)
 have A5 := Aside0.mk A50
 clear A50
 replace H := Option.bind_eq_some_iff.mp H
 obtain ⟨t181, A60, H⟩ := H
 (try dsimp only at H)
 have A6 := Aside0.mk A60
 clear A60
 by_cases c7 : t181 = 0
 ·rw [if_pos c7] at H
  have c7b0 : (t181 == 0) = true := beq_iff_eq.mpr c7
  have c7b1 : (t181 != 0) = false := bne_eq_false_iff_eq.mpr c7
  clear c7
  replace H := Option.bind_eq_some_iff.mp H
  obtain ⟨t182, A80, H⟩ := H
  (try dsimp only at H)
  have A8 := Aside0.mk A80
  clear A80
  by_cases c9 : t182 = true
  ·subst c9
   have H1 : (if t180 = 0 then ((saltusref06_Encrypt.f k t177 t178).bind fun t183 => (some (t179.toList == t183.toList))) else (some false)) = some r := by rw [if_pos rfl] at H; exact H
   clear H
   have H := H1
   clear H1
   by_cases c10 : t180 = 0
   ·rw [if_pos c10] at H
    have c10b0 : (t180 == 0) = true := beq_iff_eq.mpr c10
    have c10b1 : (t180 != 0) = false := bne_eq_false_iff_eq.mpr c10
    clear c10
    replace H := Option.bind_eq_some_iff.mp H
    obtain ⟨t183, A110, H⟩ := H
    (try dsimp only at H)
    have A11 := Aside0.mk A110
    clear A110
    obtain rfl := Option.some.inj H
    go_enter Try.func10, Try.ntmps10
    go_wp2_with (first | ((with_reducible refine gate_callee (f := 23) rfl ?_); refine goesL_ (some 9) rfl rfl Try.func23 (by kernel_rfl) rfl #[.string a0] rfl (by (try simp only [List.map_toArray, List.map_cons, List.map_nil]); first | done | rfl | (simp only [List.length_drop, List.length_take]; rfl)) ?_; (with_reducible refine (saltuslaw06_cut.calls a0 t177 _ A3.out).mono ?_); rintro e w12 ⟨rfl, hb⟩; refine ⟨_, rfl, ?_⟩; have n0_ := Aside0.mk (below_step (by repeat (first | (with_reducible first | exact HB.out | apply below_alloc | apply pw_below_drewN | apply below_drew1) | exact HB.out)) hb); clear HB; have HB := n0_; clear n0_; (try clear hb); (try clear hb2); (try clear hk); (try clear hi)) | ((with_reducible refine gate_callee (f := 23) rfl ?_); refine goesL_ (some 11) rfl rfl Try.func23 (by kernel_rfl) rfl #[.string a1] rfl (by (try simp only [List.map_toArray, List.map_cons, List.map_nil]); first | done | rfl | (simp only [List.length_drop, List.length_take]; rfl)) ?_; (with_reducible refine (saltuslaw06_cut.calls a1 t178 _ A4.out).mono ?_); rintro e w13 ⟨rfl, hb⟩; refine ⟨_, rfl, ?_⟩; have n0_ := Aside0.mk (below_step (by repeat (first | (with_reducible first | exact HB.out | apply below_alloc | apply pw_below_drewN | apply below_drew1) | exact HB.out)) hb); clear HB; have HB := n0_; clear n0_; (try clear hb); (try clear hb2); (try clear hk); (try clear hi)) | ((with_reducible refine gate_callee (f := 35) rfl ?_); refine goesL_ (some 15) rfl rfl Try.func35 (by kernel_rfl) rfl #[.string t177, .string t178] rfl (by (try simp only [List.map_toArray, List.map_cons, List.map_nil]); first | done | rfl | (simp only [List.length_drop, List.length_take]; rfl)) ?_; (with_reducible refine (aes_Encrypt.calls t177 t178 t179 t180 _ A5.out).mono ?_); rintro e w14 ⟨rfl, hb⟩; refine ⟨_, rfl, ?_⟩; have n0_ := Aside0.mk (below_step (by repeat (first | (with_reducible first | exact HB.out | apply below_alloc | apply pw_below_drewN | apply below_drew1) | exact HB.out)) hb); clear HB; have HB := n0_; clear n0_; (try clear hb); (try clear hb2); (try clear hk); (try clear hi)) | ((with_reducible refine gate_callee (f := 36) rfl ?_); refine goesL_ (some 20) rfl rfl Try.func36 (by kernel_rfl) rfl #[.string t177, .string t178] rfl (by (try simp only [List.map_toArray, List.map_cons, List.map_nil]); first | done | rfl | (simp only [List.length_drop, List.length_take]; rfl)) ?_; (with_reducible refine (saltusref06_Why.calls t177 t178 t181 _ A6.out).mono ?_); rintro e w' ⟨rfl, ⟨nd, rfl⟩⟩; refine ⟨_, rfl, ?_⟩) | ((with_reducible refine gate_callee (f := 27) rfl ?_); refine goesL_ (some 33) rfl rfl Try.func27 (by kernel_rfl) rfl #[] rfl (by (try simp only [List.map_toArray, List.map_cons, List.map_nil]); first | done | rfl | (simp only [List.length_drop, List.length_take]; rfl)) ?_; (with_reducible refine (saltuslaw06_alive.calls  true _ A8.out).mono ?_); rintro e w15 ⟨rfl, hb⟩; refine ⟨_, rfl, ?_⟩; have n0_ := Aside0.mk (below_step (by repeat (first | (with_reducible first | exact HB.out | apply below_alloc | apply pw_below_drewN | apply below_drew1) | exact HB.out)) hb); clear HB; have HB := n0_; clear n0_; (try clear hb); (try clear hb2); (try clear hk); (try clear hi)) | (go_at_call 37; (with_reducible refine (saltusref06_Encrypt.calls k t177 t178 t183 _ A11.out).mono ?_); rintro e w16 ⟨rfl, hb⟩; have n0_ := Aside0.mk (below_step (by repeat (first | (with_reducible first | exact HB.out | apply below_alloc | apply pw_below_drewN | apply below_drew1) | exact HB.out)) hb); clear HB; have HB := n0_; clear n0_; (try clear hb); (try clear hb2); (try clear hk); (try clear hi)))
    go_ret
    exact ⟨by first | rfl | (simp [errW_none, errW_some] <;> rfl) | (simp [*, errW_none, errW_some] <;> rfl), by repeat (first | (with_reducible first | exact HB.out | apply below_alloc | apply pw_below_drewN | apply below_drew1) | exact HB.out)⟩
   ·rw [if_neg c10] at H
    have c10b0 : (t180 == 0) = false := beq_eq_false_iff_ne.mpr c10
    have c10b1 : (t180 != 0) = true := bne_iff_ne.mpr c10
    exact absurd ((Option.some.inj H).trans hr.out) (by decide)
  ·replace c9 := Bool.eq_false_iff.mpr c9
   subst c9
   have H1 : (some false) = some r := by rw [if_neg (show ¬ (false = true) by decide)] at H; exact H
   clear H
   have H := H1
   clear H1
   exact absurd ((Option.some.inj H).trans hr.out) (by decide)
 ·rw [if_neg c7] at H
  have c7b0 : (t181 == 0) = false := beq_eq_false_iff_ne.mpr c7
  have c7b1 : (t181 != 0) = true := bne_iff_ne.mpr c7
  replace H := Option.bind_eq_some_iff.mp H
  obtain ⟨t184, A170, H⟩ := H
  (try dsimp only at H)
  have A17 := Aside0.mk A170
  clear A170
  by_cases c18 : t184 = true
  ·subst c18
   have H1 : (if t180 = t181 then (some (t179.toList == ([] : List UInt8))) else (some false)) = some r := by rw [if_pos rfl] at H; exact H
   clear H
   have H := H1
   clear H1
   by_cases c19 : t180 = t181
   ·rw [if_pos c19] at H
    have c19b0 : (t180 == t181) = true := beq_iff_eq.mpr c19
    have c19b1 : (t180 != t181) = false := bne_eq_false_iff_eq.mpr c19
    clear c19
    obtain rfl := Option.some.inj H
    go_enter Try.func10, Try.ntmps10
    go_wp2_with (first | ((with_reducible refine gate_callee (f := 23) rfl ?_); refine goesL_ (some 9) rfl rfl Try.func23 (by kernel_rfl) rfl #[.string a0] rfl (by (try simp only [List.map_toArray, List.map_cons, List.map_nil]); first | done | rfl | (simp only [List.length_drop, List.length_take]; rfl)) ?_; (with_reducible refine (saltuslaw06_cut.calls a0 t177 _ A3.out).mono ?_); rintro e w20 ⟨rfl, hb⟩; refine ⟨_, rfl, ?_⟩; have n0_ := Aside0.mk (below_step (by repeat (first | (with_reducible first | exact HB.out | apply below_alloc | apply pw_below_drewN | apply below_drew1) | exact HB.out)) hb); clear HB; have HB := n0_; clear n0_; (try clear hb); (try clear hb2); (try clear hk); (try clear hi)) | ((with_reducible refine gate_callee (f := 23) rfl ?_); refine goesL_ (some 11) rfl rfl Try.func23 (by kernel_rfl) rfl #[.string a1] rfl (by (try simp only [List.map_toArray, List.map_cons, List.map_nil]); first | done | rfl | (simp only [List.length_drop, List.length_take]; rfl)) ?_; (with_reducible refine (saltuslaw06_cut.calls a1 t178 _ A4.out).mono ?_); rintro e w21 ⟨rfl, hb⟩; refine ⟨_, rfl, ?_⟩; have n0_ := Aside0.mk (below_step (by repeat (first | (with_reducible first | exact HB.out | apply below_alloc | apply pw_below_drewN | apply below_drew1) | exact HB.out)) hb); clear HB; have HB := n0_; clear n0_; (try clear hb); (try clear hb2); (try clear hk); (try clear hi)) | ((with_reducible refine gate_callee (f := 35) rfl ?_); refine goesL_ (some 15) rfl rfl Try.func35 (by kernel_rfl) rfl #[.string t177, .string t178] rfl (by (try simp only [List.map_toArray, List.map_cons, List.map_nil]); first | done | rfl | (simp only [List.length_drop, List.length_take]; rfl)) ?_; (with_reducible refine (aes_Encrypt.calls t177 t178 t179 t180 _ A5.out).mono ?_); rintro e w22 ⟨rfl, hb⟩; refine ⟨_, rfl, ?_⟩; have n0_ := Aside0.mk (below_step (by repeat (first | (with_reducible first | exact HB.out | apply below_alloc | apply pw_below_drewN | apply below_drew1) | exact HB.out)) hb); clear HB; have HB := n0_; clear n0_; (try clear hb); (try clear hb2); (try clear hk); (try clear hi)) | ((with_reducible refine gate_callee (f := 36) rfl ?_); refine goesL_ (some 20) rfl rfl Try.func36 (by kernel_rfl) rfl #[.string t177, .string t178] rfl (by (try simp only [List.map_toArray, List.map_cons, List.map_nil]); first | done | rfl | (simp only [List.length_drop, List.length_take]; rfl)) ?_; (with_reducible refine (saltusref06_Why.calls t177 t178 t181 _ A6.out).mono ?_); rintro e w' ⟨rfl, ⟨nd, rfl⟩⟩; refine ⟨_, rfl, ?_⟩) | ((with_reducible refine gate_callee (f := 27) rfl ?_); refine goesL_ (some 23) rfl rfl Try.func27 (by kernel_rfl) rfl #[] rfl (by (try simp only [List.map_toArray, List.map_cons, List.map_nil]); first | done | rfl | (simp only [List.length_drop, List.length_take]; rfl)) ?_; (with_reducible refine (saltuslaw06_alive.calls  true _ A17.out).mono ?_); rintro e w23 ⟨rfl, hb⟩; refine ⟨_, rfl, ?_⟩; have n0_ := Aside0.mk (below_step (by repeat (first | (with_reducible first | exact HB.out | apply below_alloc | apply pw_below_drewN | apply below_drew1) | exact HB.out)) hb); clear HB; have HB := n0_; clear n0_; (try clear hb); (try clear hb2); (try clear hk); (try clear hi)))
    go_ret
    exact ⟨by first | rfl | (simp [errW_none, errW_some] <;> rfl) | (simp [*, errW_none, errW_some] <;> rfl), by repeat (first | (with_reducible first | exact HB.out | apply below_alloc | apply pw_below_drewN | apply below_drew1) | exact HB.out)⟩
   ·rw [if_neg c19] at H
    have c19b0 : (t180 == t181) = false := beq_eq_false_iff_ne.mpr c19
    have c19b1 : (t180 != t181) = true := bne_iff_ne.mpr c19
    exact absurd ((Option.some.inj H).trans hr.out) (by decide)
  ·replace c18 := Bool.eq_false_iff.mpr c18
   subst c18
   have H1 : (some false) = some r := by rw [if_neg (show ¬ (false = true) by decide)] at H; exact H
   clear H
   have H := H1
   clear H1
   exact absurd ((Option.some.inj H).trans hr.out) (by decide)
def saltuslaw06_AesEncrypts.Pure : Prop := ∀ (a0 : ByteArray) (a1 : ByteArray), a0.size ≤ 140737488351232 → a1.size ≤ 140737488351232 → ∃ k, saltuslaw06_AesEncrypts.f k a0 a1 = some true
theorem saltuslaw06_AesEncrypts.walk (P : saltuslaw06_AesEncrypts.Pure) (a0 : ByteArray) (a1 : ByteArray) (w : World) (w0 : a0.size ≤ 140737488351232) (w1 : a1.size ≤ 140737488351232) :
  Calls Try.prog 10 #[.string a0, .string a1] w fun e w' => e = .returned (.bool true) ∧ Below w.heap.size w w' := by
 obtain ⟨k, h⟩ := P a0 a1 w0 w1
 refine (saltuslaw06_AesEncrypts.calls k a0 a1 true w ⟨rfl⟩ h).mono ?_
 rintro e w' ⟨rfl, hd⟩
 exact ⟨rfl, hd⟩
end Go.Proofs.Ytnaidfcehmdmcaa.QAK
end
section
namespace Go.Proofs.Ytnaidfcehmdmcaa.AS
open Go.RowKit Go.Proofs.YtnaidfcehmdmcaaW.PrintWords Go.Proofs.YtnaidfcehmdmcaaW.PrintLast Go.Proofs.YtnaidfcehmdmcaaW.PrintMore
open Go.Proofs.Ytnaidfcehmdmcaa.FC Go.Proofs.Ytnaidfcehmdmcaa.Mem
theorem tplace_lt (i : Nat) : tplace i < 16 := Nat.mod_lt _ (by decide)
def m4 (a : Nat) : Nat := m2 (m2 a)
end Go.Proofs.Ytnaidfcehmdmcaa.AS
end
section
namespace Go.Proofs.Ytnaidfcehmdmcaa.Key
open Go.RowKit Go.Proofs.Ytnaidfcehmdmcaa.FC Go.Proofs.Ytnaidfcehmdmcaa.Mem Go.Proofs.Ytnaidfcehmdmcaa.AS Go.Proofs.Ytnaidfcehmdmcaa.Row
open Go.Proofs.YtnaidfcehmdmcaaW.PrintWords Go.Proofs.YtnaidfcehmdmcaaW.PrintLast Go.Proofs.YtnaidfcehmdmcaaW.PrintMore
theorem tplace_lt (i : Nat) : tplace i < 16 := Nat.mod_lt _ (by decide)
theorem txt_sub {f : Nat → Int} (h : ∀ i, By (f i)) : txt (subA f) = turnedS (boxedS (txt f)) := by
 unfold turnedS
 refine txt_ext fun i _ => ?_
 unfold subA boxedS
 rw [txt_bt _ _ (tplace_lt i) ((bt_by _ _).box), txt_bt f _ (tplace_lt i) (h _)]
theorem mixA_congr {f g : Nat → Int} (h : ∀ i, i < 16 → f i = g i) (i : Nat) (hi : i < 16) : mixA f i = mixA g i := by
 have h1 : 4 * (i / 4) ≤ 12 := by omega
 have h2 : i % 4 < 4 := Nat.mod_lt _ (by decide)
 have h3 : (i % 4 + 1) % 4 < 4 := Nat.mod_lt _ (by decide)
 unfold mixA mixI allI
 generalize i % 4 = r at *
 generalize 4 * (i / 4) = c at *
 generalize (r + 1) % 4 = q at *
 rw [h c (by omega), h (c + 1) (by omega), h (c + 2) (by omega), h (c + 3) (by omega), h (c + r) (by omega), h (c + q) (by omega)]
end Go.Proofs.Ytnaidfcehmdmcaa.Key
end
section
namespace Go.Proofs.Ytnaidfcehmdmcaa.AK
open Go.RowKit Go.Proofs.Ytnaidfcehmdmcaa.QAK Go.Proofs.YtnaidfcehmdmcaaW.PrintWords Go.Proofs.YtnaidfcehmdmcaaW.PrintLast Go.Proofs.YtnaidfcehmdmcaaW.PrintMore
open Go.Proofs.Ytnaidfcehmdmcaa.FC Go.Proofs.Ytnaidfcehmdmcaa.Mem Go.Proofs.Ytnaidfcehmdmcaa.AS Go.Proofs.Ytnaidfcehmdmcaa.Key
/-! ### texts as functions of the place -/
theorem tx_size (n : Nat) (f : Nat → Int) : (tx n f).size = n := by
 show ((strOfNums _).data).size = n
 simp [strOfNums]
theorem tx_bt (n : Nat) (f : Nat → Int) (i : Nat) (hi : i < n) (hf : By (f i)) : bt (tx n f) i = f i := by
 rw [← bt_nat (tx n f) i (by rw [tx_size]; exact hi)]
 have h0 := hf.lo; have h1 := hf.hi
 show (((strOfNums ((List.range n).map f)).data[i]'(by simp [strOfNums]; exact hi)).toNat : Int) = f i
 simp [strOfNums]
 omega
theorem tx_congr {n : Nat} {f g : Nat → Int} (h : ∀ i, i < n → f i = g i) : tx n f = tx n g := by
 unfold tx
 congr 1
 exact List.map_congr_left fun i hi => h i (List.mem_range.1 hi)
theorem ba_ext {a b : ByteArray} (hs : a.size = b.size) (h : ∀ i, i < a.size → bt a i = bt b i) : a = b := by
 apply ByteArray.ext
 apply Array.ext
 ·exact hs
 ·intro i h1 h2
  have e := h i h1
  have e1 := bt_nat a i h1
  have e2 := bt_nat b i h2
  rw [← e1, ← e2] at e
  have : (a[i]'h1).toNat = (b[i]'h2).toNat := by exact_mod_cast e
  exact UInt8.toNat_inj.1 this
theorem self_tx (s : ByteArray) : s = tx s.size fun i => bt s i := by
 refine ba_ext (by rw [tx_size]) fun i hi => ?_
 rw [tx_bt _ _ _ hi (bt_by _ _)]
theorem bt_app (a b : ByteArray) (i : Nat) : bt (a ++ b) i = if i < a.size then bt a i else bt b ((i - a.size : Nat) : Int) := by
 have hz : (a ++ b).size = a.size + b.size := ByteArray.size_append
 by_cases h1 : i < a.size
 ·rw [if_pos h1, ← bt_nat (a ++ b) i (by omega), ← bt_nat a i h1, ByteArray.getElem_append_left h1]
 ·rw [if_neg h1]
  by_cases h2 : i - a.size < b.size
  ·rw [← bt_nat (a ++ b) i (by omega), ← bt_nat b _ h2, ByteArray.getElem_append_right (by omega)]
  ·unfold bt
   rw [dif_neg (by rw [Int.toNat_natCast]; omega), dif_neg (by rw [Int.toNat_natCast]; omega)]
theorem bt_ext (s : ByteArray) (p q i : Nat) (hq : q ≤ s.size) (hi : p + i < q) : bt (s.extract p q) i = bt s ((p + i : Nat) : Int) := by
 have hz : (s.extract p q).size = q - p := by rw [ByteArray.size_extract]; omega
 rw [← bt_nat (s.extract p q) i (by omega), ← bt_nat s _ (by omega), ByteArray.getElem_extract]
theorem tx_app (n m : Nat) (f g : Nat → Int) (hf : ∀ i, By (f i)) (hg : ∀ i, By (g i)) : tx n f ++ tx m g = tx (n + m) fun i => if i < n then f i else g (i - n) := by
 have hz : (tx n f ++ tx m g).size = n + m := by rw [ByteArray.size_append, tx_size, tx_size]
 refine ba_ext (by rw [hz, tx_size]) fun i hi => ?_
 rw [hz] at hi
 have hb : By (if i < n then f i else g (i - n)) := by
  split
  ·exact hf _
  ·exact hg _
 rw [bt_app, tx_size, tx_bt (n + m) (fun i => if i < n then f i else g (i - n)) i hi hb]
 by_cases h1 : i < n
 ·rw [if_pos h1, if_pos h1, tx_bt _ _ _ h1 (hf _)]
 ·rw [if_neg h1, if_neg h1, tx_bt _ _ _ (by omega) (hg _)]
theorem tx_cut (n p q : Nat) (f : Nat → Int) (hf : ∀ i, By (f i)) (hpq : p ≤ q) (hq : q ≤ n) : (tx n f).extract p q = tx (q - p) fun i => f (p + i) := by
 have hz : ((tx n f).extract p q).size = q - p := by rw [ByteArray.size_extract, tx_size]; omega
 refine ba_ext (by rw [hz, tx_size]) fun i hi => ?_
 rw [hz] at hi
 rw [bt_ext _ _ _ _ (by rw [tx_size]; exact hq) (by omega), tx_bt _ _ _ (by omega) (hf _), tx_bt (q - p) (fun i => f (p + i)) i hi (hf _)]
/-! ### the reference's sum of two texts -/
theorem wi (i n : Nat) (h : i ≤ n) (hn : n ≤ 1000000000) : wrap64 ((i : Int) + 1) = ((i + 1 : Nat) : Int) := by unfold wrap64; omega
theorem xor_l0 (n : Nat) (f g : Nat → Int) (hf : ∀ i, By (f i)) (hg : ∀ i, By (g i)) (hn : n ≤ 1000) (d : Nat) : ∀ i, i + d = n →
  Ev (fun k => saltusref06_Xor.l0 k (tx n f) (tx n g) ((List.range i).map fun j => bits .xor .u8 (f j) (g j)) (i : Int)) (tx n fun j => bits .xor .u8 (f j) (g j)) := by
 induction d with
 | zero =>
  intro i hi
  obtain rfl : i = n := by omega
  refine Ev.step (fun k => ?_) (Ev.now _)
  rw [saltusref06_Xor.l0, tx_size, if_neg (by omega)]
  rfl
 | succ d ih =>
  intro i hi
  refine Ev.step (fun k => ?_) (ih (i + 1) (by omega))
  rw [saltusref06_Xor.l0, tx_size, tx_size, if_pos (by omega), if_pos (by omega), if_pos (by omega), if_pos (by simp; omega), tx_bt _ _ _ (by omega) (hf _), tx_bt _ _ _ (by omega) (hg _), wi i n (by omega) (by omega), List.range_succ, List.map_append]
  rfl
theorem xor_ev (n : Nat) (f g : Nat → Int) (hf : ∀ i, By (f i)) (hg : ∀ i, By (g i)) (hn : n ≤ 1000) : Ev (fun k => saltusref06_Xor.f k (tx n f) (tx n g)) (tx n fun j => bits .xor .u8 (f j) (g j)) := xor_l0 n f g hf hg hn n 0 (by omega)
/-! ### the words -/
def wrd (F : Nat → Int) (n : Nat) : ByteArray := tx 4 fun r => F (4 * n + r)
def wrds (F : Nat → Int) (n : Nat) : List ByteArray := (List.range n).map (wrd F)
theorem wrds_len (F : Nat → Int) (n : Nat) : (wrds F n).length = n := by simp [wrds]
theorem wrds_rd (F : Nat → Int) (n i : Nat) (h : i < n) : rdOf ByteArray.empty (wrds F n) (i : Int) = wrd F i := by
 unfold rdOf
 rw [Int.toNat_natCast, List.getD_eq_getElem?_getD, List.getElem?_eq_getElem (by rw [wrds_len]; exact h)]
 simp [wrds]
theorem wrds_snoc (F : Nat → Int) (n : Nat) : wrds F n ++ [wrd F n] = wrds F (n + 1) := by unfold wrds; rw [List.range_succ, List.map_append]; rfl
theorem pow_ok (n : Nat) (h : n < 1000) : saltusref05_Pow.f 2 (n : Int) = some (twoI n) := by
 unfold saltusref05_Pow.f
 rw [if_pos ⟨rfl, by omega, by omega⟩, Int.toNat_natCast]
theorem turn_word (F : Nat → Int) (hB : ∀ j, By (F j)) (i : Nat) (hi : 1 ≤ i) : ((wrd F (i - 1)).extract 1 (wrd F (i - 1)).size) ++ ((wrd F (i - 1)).extract 0 1) = tx 4 fun r => F (4 * i - 4 + (r + 1) % 4) := by
 unfold wrd
 rw [tx_size, tx_cut 4 1 4 (fun r => F (4 * (i - 1) + r)) (fun _ => hB _) (by decide) (by decide), tx_cut 4 0 1 (fun r => F (4 * (i - 1) + r)) (fun _ => hB _) (by decide) (by decide)]
 rw [tx_app (4 - 1) (1 - 0) (fun r => F (4 * (i - 1) + (1 + r))) (fun r => F (4 * (i - 1) + (0 + r))) (fun _ => hB _) (fun _ => hB _)]
 show tx 4 _ = tx 4 _
 refine tx_congr fun r hr => ?_
 by_cases h3 : r < 4 - 1
 ·rw [if_pos h3]
  have : 4 * (i - 1) + (1 + r) = 4 * i - 4 + (r + 1) % 4 := by omega
  rw [this]
 ·rw [if_neg h3]
  have : 4 * (i - 1) + (0 + (r - (4 - 1))) = 4 * i - 4 + (r + 1) % 4 := by omega
  rw [this]
theorem box_turned (F : Nat → Int) (hB : ∀ j, By (F j)) (i : Nat) : saltusref06_Boxed.f (tx 4 fun r => F (4 * i - 4 + (r + 1) % 4)) = some (tx 4 fun r => boxI (F (4 * i - 4 + (r + 1) % 4))) := by
 unfold saltusref06_Boxed.f
 rw [tx_size, if_pos (by decide)]
 exact congrArg some (tx_congr fun r hr => by rw [tx_bt 4 (fun r => F (4 * i - 4 + (r + 1) % 4)) r hr (hB _)])
theorem wd_first (F : Nat → Int) (hB : ∀ j, By (F j)) (K i : Nat) (hp : i % K = 0) : tx 1 (fun _ => bits .xor .u8 (boxI (F (4 * i - 4 + 1))) (twoI (i / K - 1))) ++ (tx 4 fun r => boxI (F (4 * i - 4 + (r + 1) % 4))).extract 1 4 = tx 4 fun r => wd K F i r := by
 rw [tx_cut 4 1 4 (fun r => boxI (F (4 * i - 4 + (r + 1) % 4))) (fun _ => By.box (hB _)) (by decide) (by decide)]
 rw [tx_app 1 (4 - 1) _ (fun r => boxI (F (4 * i - 4 + ((1 + r) + 1) % 4))) (fun _ => (By.box (hB _)).xor (By.two _)) (fun _ => By.box (hB _))]
 show tx 4 _ = tx 4 _
 refine tx_congr fun r hr => ?_
 unfold wd
 rw [if_pos hp]
 by_cases h0 : r = 0
 ·subst h0
  rfl
 ·rw [if_neg (by omega), if_neg h0, show 1 + (r - 1) = r by omega]
theorem words_l0 (K : Nat) (hK : K = 4 ∨ K = 8) (s : ByteArray) (hs : s.size = 4 * K) (F : Nat → Int) (hF : KeyF K s F) (r : List ByteArray) (hr : Ev (fun k => saltusref06_words.l1 k (K : Int) (wrds F K) (K : Int)) r) (d : Nat) : ∀ i, i + d = K →
  Ev (fun k => saltusref06_words.l0 k s (K : Int) (wrds F i) (i : Int)) r := by
 induction d with
 | zero =>
  intro i hi
  obtain rfl : i = K := by omega
  refine Ev.step (fun k => ?_) hr
  rw [saltusref06_words.l0, if_neg (by omega)]
 | succ d ih =>
  intro i hi
  refine Ev.step (fun k => ?_) (ih (i + 1) (by omega))
  have e1 : wrap64 (4 * (i : Int)) = ((4 * i : Nat) : Int) := by unfold wrap64; omega
  have e2 : wrap64 (((4 * i : Nat) : Int) + 4) = ((4 * i + 4 : Nat) : Int) := by unfold wrap64; omega
  have e3 : s.extract (4 * i) (4 * i + 4) = wrd F i := by
   refine ba_ext (by rw [ByteArray.size_extract]; unfold wrd; rw [tx_size]; omega) fun j hj => ?_
   rw [ByteArray.size_extract] at hj
   have hj : j < 4 := by omega
   rw [bt_ext _ _ _ _ (by omega) (by omega)]
   unfold wrd
   rw [tx_bt _ _ _ hj (by rw [hF.first _ (by omega)]; exact bt_by _ _), hF.first _ (by omega)]
  have hl := wrds_len F i
  rw [saltusref06_words.l0, if_pos (by omega), e1, e2, if_pos (by omega), if_pos (by omega), if_pos (by omega), if_pos (by omega), Int.toNat_natCast, Int.toNat_natCast, e3, wrds_snoc, wi i K (by omega) (by omega)]
theorem words_l1 (K : Nat) (hK : K = 4 ∨ K = 8) (s : ByteArray) (F : Nat → Int) (hF : KeyF K s F) (hB : ∀ j, By (F j)) (d : Nat) : ∀ i, i + d = 4 * (K + 7) → K ≤ i →
  Ev (fun k => saltusref06_words.l1 k (K : Int) (wrds F i) (i : Int)) (wrds F (4 * (K + 7))) := by
 have e0 := Aside0.mk (show wrap64 (4 * wrap64 ((K : Int) + 7)) = ((4 * (K + 7) : Nat) : Int) by unfold wrap64; omega)
 induction d with
 | zero =>
  intro i hi _
  obtain rfl : i = 4 * (K + 7) := by omega
  refine Ev.step (fun k => ?_) (Ev.now _)
  rw [saltusref06_words.l1, e0.out, if_neg (by omega)]
 | succ d ih =>
  intro i hi hKi
  have h := ih (i + 1) (by omega) (by omega)
  have e1 := Aside0.mk (show wrap64 ((i : Int) - 1) = ((i - 1 : Nat) : Int) by unfold wrap64; omega)
  have e2 := Aside0.mk (show wrap64 ((i : Int) - (K : Int)) = ((i - K : Nat) : Int) by unfold wrap64; omega)
  have hl := wrds_len F i
  have r1 := wrds_rd F i (i - 1) (by omega)
  have r2 := wrds_rd F i (i - K) (by omega)
  have hm : Aside0 (Int.tmod (i : Int) (K : Int) = ((i % K : Nat) : Int)) := Aside0.mk (by rw [Int.tmod_eq_emod_of_nonneg (Int.natCast_nonneg _)]; rfl)
  have hd : Aside0 (Int.tdiv (i : Int) (K : Int) = ((i / K : Nat) : Int)) := Aside0.mk (by rw [Int.tdiv_eq_ediv_of_nonneg (Int.natCast_nonneg _)]; rfl)
  -- the next word, of the sum of the one K back and the bytes wd
  have hx : Ev (fun k => saltusref06_Xor.f k (wrd F (i - K)) (tx 4 fun r => wd K F i r)) (wrd F i) := by
   have := xor_ev 4 (fun r => F (4 * (i - K) + r)) (fun r => wd K F i r) (fun _ => hB _) (fun _ => By.wd hB _ _) (by decide)
   have e : (tx 4 fun j => bits .xor .u8 (F (4 * (i - K) + j)) (wd K F i j)) = wrd F i := by
    unfold wrd
    refine tx_congr fun r hr => ?_
    rw [hF.next i r hKi (by omega) hr, show 4 * (i - K) + r = 4 * i + r - 4 * K by omega]
   rw [e] at this
   exact this
  obtain ⟨K1, h⟩ := h
  obtain ⟨K2, hx⟩ := hx
  by_cases hp : i % K = 0
  ·have hi100 : i < 1000 := by omega
   have hdiv : 1 ≤ i / K := by rw [Nat.le_div_iff_mul_le (by omega)]; omega
   have hdv2 : i / K ≤ i := Nat.div_le_self _ _
   have ew := Aside0.mk (show wrap64 (((i / K : Nat) : Int) - 1) = ((i / K - 1 : Nat) : Int) by unfold wrap64; omega)
   have ew0 := Aside0.mk (show wrap64 ((i / K : Nat) : Int) = ((i / K : Nat) : Int) by unfold wrap64; omega)
   have ep := pow_ok (i / K - 1) (Nat.lt_of_le_of_lt (Nat.sub_le _ _) (Nat.lt_of_le_of_lt hdv2 hi100))
   have et := turn_word F hB i (by omega)
   have eb := box_turned F hB i
   have ez := wd_first F hB K i hp
   have e4 : bt (tx 4 fun r => boxI (F (4 * i - 4 + (r + 1) % 4))) 0 = boxI (F (4 * i - 4 + 1)) := tx_bt 4 _ 0 (by decide) (By.box (hB _))
   refine ⟨max K1 K2 + 1, fun k hk => ?_⟩
   obtain ⟨k, rfl⟩ : ∃ m, k = m + 1 := ⟨k - 1, by omega⟩
   have h1 : saltusref06_words.l1 k (K : Int) (wrds F (i + 1)) ((i + 1 : Nat) : Int) = _ := h k (by omega)
   have h2 : saltusref06_Xor.f k (wrd F (i - K)) _ = _ := hx k (by omega)
   have s1 : (wrd F (i - 1)).size = 4 := tx_size _ _
   have s2 : ((wrd F (i - 1)).extract 1 (wrd F (i - 1)).size).size + ((wrd F (i - 1)).extract 0 1).size ≤ 9223372036854775807 := by rw [ByteArray.size_extract, ByteArray.size_extract, s1]; decide
   have s3 : (tx 4 fun r => boxI (F (4 * i - 4 + (r + 1) % 4))).size = 4 := tx_size _ _
   have s4 : (strOfNums [bits .xor .u8 (boxI (F (4 * i - 4 + 1))) (twoI (i / K - 1))]).size + ((tx 4 fun r => boxI (F (4 * i - 4 + (r + 1) % 4))).extract 1 4).size ≤ 9223372036854775807 := by
    have : (strOfNums [bits .xor .u8 (boxI (F (4 * i - 4 + 1))) (twoI (i / K - 1))]).size = 1 := tx_size 1 (fun _ => bits .xor .u8 (boxI (F (4 * i - 4 + 1))) (twoI (i / K - 1)))
    rw [this, ByteArray.size_extract, s3]
    decide
   show saltusref06_words.l1 (k + 1) (K : Int) (wrds F i) (i : Int) = _
   rw [saltusref06_words.l1, e0.out, if_pos (by omega), e1.out, if_pos (by omega), if_pos (by omega), if_neg (by omega), hm.out, if_pos (by omega), r1, if_pos (by omega), if_pos (by decide), if_pos s2, et, eb, Option.bind_some, s3, if_pos (by decide), hd.out, ew0.out, ew.out, ep, Option.bind_some, e4]
   unfold saltusref06_text.f
   rw [Option.bind_some, if_pos (by decide), if_pos s4, e2.out, if_pos (by omega), if_pos (by omega), r2]
   rw [show strOfNums [bits .xor .u8 (boxI (F (4 * i - 4 + 1))) (twoI (i / K - 1))] = tx 1 (fun _ => bits .xor .u8 (boxI (F (4 * i - 4 + 1))) (twoI (i / K - 1))) from rfl, ez, h2, Option.bind_some, if_pos (by omega), wrds_snoc, wi i (i + 1) (by omega) (by omega)]
   exact h1
  ·have s1 : (wrd F (i - 1)).size = 4 := tx_size _ _
   by_cases hq : K = 8 ∧ i % 8 = 4
   ·obtain ⟨hK8, hq⟩ := hq
    have eb : saltusref06_Boxed.f (wrd F (i - 1)) = some (tx 4 fun r => wd K F i r) := by
     unfold saltusref06_Boxed.f
     rw [s1, if_pos (by decide)]
     refine congrArg some (tx_congr fun r hr => ?_)
     unfold wrd
     rw [tx_bt 4 (fun r => F (4 * (i - 1) + r)) r hr (hB _)]
     unfold wd
     rw [if_neg hp, if_pos ⟨hK8, hq⟩, show 4 * (i - 1) + r = 4 * i - 4 + r by omega]
    have hb : (Int.tmod (i : Int) 8 == 4) = true := by
     rw [Int.tmod_eq_emod_of_nonneg (Int.natCast_nonneg _), beq_iff_eq]
     omega
    refine ⟨max K1 K2 + 2, fun k hk => ?_⟩
    obtain ⟨k, rfl⟩ : ∃ m, k = m + 1 + 1 := ⟨k - 2, by omega⟩
    have h1 : saltusref06_words.l1 k (K : Int) (wrds F (i + 1)) ((i + 1 : Nat) : Int) = _ := h k (by omega)
    have h2 : saltusref06_Xor.f k (wrd F (i - K)) _ = _ := hx k (by omega)
    show saltusref06_words.l1 (k + 1 + 1) (K : Int) (wrds F i) (i : Int) = _
    rw [saltusref06_words.l1, e0.out, if_pos (by omega), e1.out, if_pos (by omega), if_pos (by omega), if_neg (by omega), hm.out, if_neg (by omega), r1, if_pos (by omega), hb, saltusref06_words.j2, if_pos rfl, eb, Option.bind_some, e2.out, if_pos (by omega), if_pos (by omega), r2, h2, Option.bind_some, if_pos (by omega), wrds_snoc, wi i (i + 1) (by omega) (by omega)]
    exact h1
   ·have ewd : wrd F (i - 1) = tx 4 fun r => wd K F i r := by
     unfold wrd
     refine tx_congr fun r hr => ?_
     unfold wd
     rw [if_neg hp, if_neg hq, show 4 * (i - 1) + r = 4 * i - 4 + r by omega]
    refine ⟨max K1 K2 + 2, fun k hk => ?_⟩
    obtain ⟨k, rfl⟩ : ∃ m, k = m + 1 + 1 := ⟨k - 2, by omega⟩
    have h1 : saltusref06_words.l1 k (K : Int) (wrds F (i + 1)) ((i + 1 : Nat) : Int) = _ := h k (by omega)
    have h2 : saltusref06_Xor.f k (wrd F (i - K)) _ = _ := hx k (by omega)
    have hj : saltusref06_words.j2 (k + 1) (K : Int) (wrds F i) (i : Int) (tx 4 fun r => wd K F i r) false = some (wrds F (4 * (K + 7))) := by
     rw [saltusref06_words.j2, if_neg (by decide), e2.out, if_pos (by omega), if_pos (by omega), r2, h2, Option.bind_some, if_pos (by omega), wrds_snoc, wi i (i + 1) (by omega) (by omega)]
     exact h1
    show saltusref06_words.l1 (k + 1 + 1) (K : Int) (wrds F i) (i : Int) = _
    rw [saltusref06_words.l1, e0.out, if_pos (by omega), e1.out, if_pos (by omega), if_pos (by omega), if_neg (by omega), hm.out, if_neg (by omega), r1, ewd]
    by_cases hK8 : K = 8
    ·have hb : (Int.tmod (i : Int) 8 == 4) = false := by
      rw [Int.tmod_eq_emod_of_nonneg (Int.natCast_nonneg _), beq_eq_false_iff_ne]
      have : ¬ i % 8 = 4 := fun x => hq ⟨hK8, x⟩
      omega
     rw [if_pos (by omega), hb]
     exact hj
    ·rw [if_neg (by omega)]
     exact hj
theorem words_ev (s : ByteArray) (h : okKey s) : Ev (fun k => saltusref06_words.f k s) (wrds (keyB s) (4 * keyN s)) := by
 obtain ⟨K, hK, hs⟩ : ∃ K, (K = 4 ∨ K = 8) ∧ s.size = 4 * K := by
  rcases h with h | h
  ·exact ⟨4, .inl rfl, h⟩
  ·exact ⟨8, .inr rfl, h⟩
 have hd : s.size / 4 = K := by omega
 have eF : keyB s = keyF K s := by unfold keyB; rw [hd]
 have eN : keyN s = K + 7 := by unfold keyN; rw [hd]
 have hF := keyF_law K (by omega) s
 rw [eF, eN]
 have hB := keyF_by K s
 generalize keyF K s = F at *
 have h1 := words_l1 K hK s F hF hB (3 * K + 28) K (by omega) (Nat.le_refl _)
 have h2 := words_l0 K hK s hs F hF _ h1 K 0 (by omega)
 refine Ev.congr (fun k => ?_) h2
 unfold saltusref06_words.f
 rw [show wrap64 ((s.size : Int) / 4) = (K : Int) by unfold wrap64; omega]
 rfl
/-! ### the round keys -/
theorem four_words (F : Nat → Int) (hB : ∀ j, By (F j)) (m : Nat) : ((wrd F (4 * m) ++ wrd F (4 * m + 1)) ++ wrd F (4 * m + 2)) ++ wrd F (4 * m + 3) = keyT F m := by
 unfold wrd keyT
 have b2 : ∀ i, By (if i < 4 then F (4 * (4 * m) + i) else F (4 * (4 * m + 1) + (i - 4))) := fun i => by split <;> exact hB _
 have b3 : ∀ i, By (if i < 4 + 4 then (if i < 4 then F (4 * (4 * m) + i) else F (4 * (4 * m + 1) + (i - 4))) else F (4 * (4 * m + 2) + (i - (4 + 4)))) := fun i => by
  split
  ·exact b2 i
  ·exact hB _
 rw [tx_app 4 4 _ _ (fun _ => hB _) (fun _ => hB _), tx_app (4 + 4) 4 _ _ b2 (fun _ => hB _), tx_app (4 + 4 + 4) 4 _ _ b3 (fun _ => hB _)]
 show tx 16 _ = tx 16 _
 refine tx_congr fun i hi => ?_
 by_cases h3 : i < 4 + 4 + 4
 ·rw [if_pos h3]
  by_cases h2 : i < 4 + 4
  ·rw [if_pos h2]
   by_cases h1 : i < 4
   ·rw [if_pos h1]
    exact congrArg F (by omega)
   ·rw [if_neg h1]
    exact congrArg F (by omega)
  ·rw [if_neg h2]
   exact congrArg F (by omega)
 ·rw [if_neg h3]
  exact congrArg F (by omega)
theorem keys_l0 (F : Nat → Int) (hB : ∀ j, By (F j)) (n : Nat) (hn : n ≤ 100) (d : Nat) : ∀ m, m + d = n →
  Ev (fun k => saltusref06_Keys.l0 k (wrds F (4 * n)) ((List.range m).map (keyT F)) ((4 * m : Nat) : Int)) ((List.range n).map (keyT F)) := by
 have hl := wrds_len F (4 * n)
 induction d with
 | zero =>
  intro m hm
  obtain rfl : m = n := by omega
  refine Ev.step (fun k => ?_) (Ev.now _)
  rw [saltusref06_Keys.l0, if_neg (by omega)]
 | succ d ih =>
  intro m hm
  refine Ev.step (fun k => ?_) (ih (m + 1) (by omega))
  have e1 : wrap64 (((4 * m : Nat) : Int) + 1) = ((4 * m + 1 : Nat) : Int) := by unfold wrap64; omega
  have e2 : wrap64 (((4 * m : Nat) : Int) + 2) = ((4 * m + 2 : Nat) : Int) := by unfold wrap64; omega
  have e3 : wrap64 (((4 * m : Nat) : Int) + 3) = ((4 * m + 3 : Nat) : Int) := by unfold wrap64; omega
  have e4 : wrap64 (((4 * m : Nat) : Int) + 4) = ((4 * (m + 1) : Nat) : Int) := by unfold wrap64; omega
  have z : ∀ i, (wrd F i).size = 4 := fun i => tx_size _ _
  have z2 : ∀ i j, (wrd F i ++ wrd F j).size = 8 := fun i j => by rw [ByteArray.size_append, z, z]
  have z3 : ∀ i j l, ((wrd F i ++ wrd F j) ++ wrd F l).size = 12 := fun i j l => by rw [ByteArray.size_append, z2, z]
  rw [saltusref06_Keys.l0, if_pos (by omega), if_pos (by omega), e1, e2, e3, if_pos (by omega), if_pos (by omega), wrds_rd F _ _ (by omega), wrds_rd F _ _ (by omega), z, z, if_pos (by decide), if_pos (by omega), if_pos (by omega), wrds_rd F _ _ (by omega), z2, z, if_pos (by decide), if_pos (by omega), if_pos (by omega), wrds_rd F _ _ (by omega), z3, z, if_pos (by decide), if_pos (by simp; omega), four_words F hB m, e4, List.range_succ, List.map_append]
  rfl
theorem keys_ev (s : ByteArray) (h : okKey s) : Ev (fun k => saltusref06_Keys.f k s) (keysL s) := by
 have hN : keyN s ≤ 100 := keyN_most h
 unfold saltusref06_Keys.f
 refine Ev.bind (f := fun k t => saltusref06_Keys.l0 k t [] 0) (words_ev s h) ?_
 exact keys_l0 (keyB s) (keyB_by s) (keyN s) hN (keyN s) 0 (by omega)
/-! ### a block, encrypted -/
theorem keysL_len (s : ByteArray) : (keysL s).length = keyN s := by simp [keysL]
theorem keysL_rd (s : ByteArray) (i : Nat) (h : i < keyN s) : rdOf ByteArray.empty (keysL s) (i : Int) = keyT (keyB s) i := by
 unfold rdOf
 rw [Int.toNat_natCast, List.getD_eq_getElem?_getD, List.getElem?_eq_getElem (by rw [keysL_len]; exact h)]
 simp [keysL]
theorem st_xor (f : Nat → Int) (hf : ∀ i, By (f i)) (T : ByteArray) (hT : T.size = 16) : Ev (fun k => saltusref06_Xor.f k (txt f) T) (txt fun i => bits .xor .u8 (f i) (bt T i)) := by
 have h := xor_ev 16 f (fun i => bt T i) hf (fun i => bt_by T i) (by decide)
 have e := self_tx T
 rw [hT] at e
 rw [← e] at h
 exact h
theorem box_txt (f : Nat → Int) : saltusref06_Boxed.f (txt f) = some (boxedS (txt f)) := by
 unfold saltusref06_Boxed.f
 rw [AS.txt_size, if_pos (by decide)]
 rfl
theorem enc_l0 (key block : ByteArray) (h : okKey key) (d : Nat) : ∀ m, m + 1 + d = keyN key →
  Ev (fun k => saltusref06_Encrypt.l0 k (keysL key) (txt (encR (keyT (keyB key)) (keyN key) (fun i => bt block i) m)) ((m + 1 : Nat) : Int)) (encS key block) := by
 have hl := keysL_len key
 have hN : keyN key ≤ 100 := keyN_most h
 induction d with
 | zero =>
  intro m hm
  refine Ev.step (fun k => ?_) (Ev.now _)
  rw [saltusref06_Encrypt.l0, if_neg (by omega)]
  unfold encS encA
  rw [show keyN key - 1 = m by omega]
 | succ d ih =>
  intro m hm
  have hi := ih (m + 1) (by omega)
  have hR := encR_by (keyT (keyB key)) (keyN key) (fun i => bt_by block i) m
  have eR : txt (encR (keyT (keyB key)) (keyN key) (fun i => bt block i) (m + 1)) = txt fun i => bits .xor .u8 ((if m + 2 < keyN key then mixA (subA (encR (keyT (keyB key)) (keyN key) (fun i => bt block i) m)) else subA (encR (keyT (keyB key)) (keyN key) (fun i => bt block i) m)) i) (bt (keyT (keyB key) (m + 1)) i) := rfl
  rw [eR] at hi
  have hk1 := keysL_rd key (m + 1) (by omega)
  have ew : wrap64 (((m + 1 : Nat) : Int) + 1) = ((m + 1 + 1 : Nat) : Int) := by unfold wrap64; omega
  generalize encR (keyT (keyB key)) (keyN key) (fun i => bt block i) m = st at *
  have hs : turnedS (boxedS (txt st)) = txt (subA st) := (txt_sub hR).symm
  have bz : (boxedS (txt st)).size = 16 := AS.txt_size _
  have tz : (txt (subA st)).size = 16 := AS.txt_size _
  have et : saltusref06_Turned.f (boxedS (txt st)) = some (txt (subA st)) := by
   unfold saltusref06_Turned.f
   rw [if_pos bz, hs]
  have hTz : (keyT (keyB key) (m + 1)).size = 16 := AS.txt_size _
  by_cases hlast : m + 2 < keyN key
  ·rw [if_pos hlast] at hi
   have em : saltusref06_Mixed.f (txt (subA st)) = some (txt (mixA (subA st))) := by
    unfold saltusref06_Mixed.f
    rw [if_pos tz]
    refine congrArg some ?_
    unfold mixedS
    refine txt_ext fun i hi => mixA_congr (fun j hj => ?_) i hi
    exact AS.txt_bt _ _ hj (subA_by hR j)
   obtain ⟨K1, hx⟩ := st_xor (mixA (subA st)) (mixA_by (subA_by hR)) _ hTz
   obtain ⟨K2, hi⟩ := hi
   refine ⟨max K1 K2 + 1, fun k hk => ?_⟩
   obtain ⟨k, rfl⟩ : ∃ n, k = n + 1 := ⟨k - 1, by omega⟩
   have h1 : saltusref06_Encrypt.l0 k (keysL key) _ ((m + 1 + 1 : Nat) : Int) = _ := hi k (by omega)
   have h2 : saltusref06_Xor.f k (txt (mixA (subA st))) _ = _ := hx k (by omega)
   show saltusref06_Encrypt.l0 (k + 1) (keysL key) (txt st) ((m + 1 : Nat) : Int) = _
   rw [saltusref06_Encrypt.l0, if_pos (by omega), box_txt, Option.bind_some, et, Option.bind_some, ew, if_pos (by omega), em, Option.bind_some, if_pos (by omega), hk1, h2, Option.bind_some]
   exact h1
  ·rw [if_neg hlast] at hi
   obtain ⟨K1, hx⟩ := st_xor (subA st) (subA_by hR) _ hTz
   obtain ⟨K2, hi⟩ := hi
   refine ⟨max K1 K2 + 1, fun k hk => ?_⟩
   obtain ⟨k, rfl⟩ : ∃ n, k = n + 1 := ⟨k - 1, by omega⟩
   have h1 : saltusref06_Encrypt.l0 k (keysL key) _ ((m + 1 + 1 : Nat) : Int) = _ := hi k (by omega)
   have h2 : saltusref06_Xor.f k (txt (subA st)) _ = _ := hx k (by omega)
   show saltusref06_Encrypt.l0 (k + 1) (keysL key) (txt st) ((m + 1 : Nat) : Int) = _
   rw [saltusref06_Encrypt.l0, if_pos (by omega), box_txt, Option.bind_some, et, Option.bind_some, ew, if_neg (by omega), if_pos (by omega), hk1, h2, Option.bind_some]
   exact h1
theorem enc_ev (key block : ByteArray) (h : okKey key) (hb : block.size = 16) : Ev (fun k => saltusref06_Encrypt.f k key block) (encS key block) := by
 have hl := keysL_len key
 have hN : 2 ≤ keyN key := keyN_two key
 unfold saltusref06_Encrypt.f
 refine Ev.bind (f := fun k t => if 0 < (t.length : Int) then ((saltusref06_Xor.f k block (rdOf ByteArray.empty t 0)).bind fun t169 => saltusref06_Encrypt.l0 k t t169 1) else none) (keys_ev key h) ?_
 have hk0 : rdOf ByteArray.empty (keysL key) 0 = keyT (keyB key) 0 := keysL_rd key 0 (by omega)
 have e : txt (fun i => bt block i) = block := txt_self block hb
 have hx := st_xor (fun i => bt block i) (fun i => bt_by block i) (keyT (keyB key) 0) (AS.txt_size _)
 rw [e] at hx
 have h0 := enc_l0 key block h (keyN key - 1) 0 (by omega)
 refine Ev.congr (fun k => ?_) (Ev.bind (f := fun k t => saltusref06_Encrypt.l0 k (keysL key) t 1) hx h0)
 rw [if_pos (by omega), hk0]
/-! ### the laws -/
def cutT (s : ByteArray) : ByteArray := s.extract 0 (mn (s.size : Int) 40).toNat
theorem cut_f (s : ByteArray) : saltuslaw06_cut.f s = some (cutT s) := by
 have h0 : 0 ≤ mn (s.size : Int) 40 := by unfold mn; split <;> omega
 have h1 : mn (s.size : Int) 40 ≤ s.size := by unfold mn; split <;> omega
 unfold saltuslaw06_cut.f
 rw [if_pos h0, if_pos h1]
 rfl
theorem key_f (s : ByteArray) : saltusref06_Key.f s = some (decide (okKey s)) := by
 unfold saltusref06_Key.f
 by_cases h : s.size = 16
 ·rw [if_pos (by omega), decide_eq_true (.inl h)]
 ·rw [if_neg (by omega)]
  by_cases h2 : s.size = 32
  ·rw [decide_eq_true (.inr h2), show ((s.size : Int) == 32) = true by rw [beq_iff_eq]; omega]
  ·rw [decide_eq_false (fun x : okKey s => x.elim h h2), show ((s.size : Int) == 32) = false by rw [beq_eq_false_iff_ne]; omega]
theorem aesEncrypts_ev (a0 a1 : ByteArray) : Ev (fun k => saltuslaw06_AesEncrypts.f k a0 a1) true := by
 have hne : ((⟨#[]⟩ : ByteArray).toList == ([] : List UInt8)) = true := by first | (rw [Go.ByteArray.toList_eq]; rfl) | (rw [ByteArray.toList_eq]; rfl) | simp [ByteArray.toList, ByteArray.toList.loop]
 by_cases h : okKey (cutT a0)
 ·by_cases hb : (cutT a1).size = 16
  ·obtain ⟨K1, h1⟩ := enc_ev _ _ h hb
   refine ⟨K1, fun k hk => ?_⟩
   have e1 : saltusref06_Encrypt.f k (cutT a0) (cutT a1) = _ := h1 k hk
   show saltuslaw06_AesEncrypts.f k a0 a1 = some true
   unfold saltuslaw06_AesEncrypts.f aes_Encrypt.f saltuslaw06_alive.f saltusref06_Why.f
   rw [cut_f, Option.bind_some, cut_f, Option.bind_some, if_pos ⟨h, hb⟩, Option.bind_some, key_f, decide_eq_true h, Option.bind_some, if_pos rfl, if_pos (by omega), Option.bind_some, if_pos rfl, Option.bind_some, if_pos rfl, if_pos rfl, e1, Option.bind_some, beq_self_eq_true]
  ·refine ⟨0, fun k _ => ?_⟩
   show saltuslaw06_AesEncrypts.f k a0 a1 = some true
   unfold saltuslaw06_AesEncrypts.f aes_Encrypt.f saltuslaw06_alive.f saltusref06_Why.f
   rw [cut_f, Option.bind_some, cut_f, Option.bind_some, if_neg (fun x => hb x.2), Option.bind_some, key_f, decide_eq_true h, Option.bind_some, if_pos rfl, if_neg (by omega), Option.bind_some, if_neg (by decide), Option.bind_some, if_pos rfl, if_pos rfl, hne]
 ·refine ⟨0, fun k _ => ?_⟩
  show saltuslaw06_AesEncrypts.f k a0 a1 = some true
  unfold saltuslaw06_AesEncrypts.f aes_Encrypt.f saltuslaw06_alive.f saltusref06_Why.f
  rw [cut_f, Option.bind_some, cut_f, Option.bind_some, if_neg (fun x => h x.1), Option.bind_some, key_f, decide_eq_false h, Option.bind_some, if_neg (by decide), Option.bind_some, if_neg (by decide), Option.bind_some, if_pos rfl, if_pos rfl, hne]
end Go.Proofs.Ytnaidfcehmdmcaa.AK
end
section
namespace Go.Proofs.Ytnaidfcehmdmcaa.Pure
open Go.RowKit Go.Proofs.Ytnaidfcehmdmcaa.QAK Go.Proofs.YtnaidfcehmdmcaaW.PrintWords Go.Proofs.YtnaidfcehmdmcaaW.PrintLast
theorem AesEncrypts : saltuslaw06_AesEncrypts.Pure := fun a0 a1 _ _ => by
 obtain ⟨K, h⟩ := AK.aesEncrypts_ev a0 a1
 exact ⟨K, h K (Nat.le_refl _)⟩
end Go.Proofs.Ytnaidfcehmdmcaa.Pure
end
