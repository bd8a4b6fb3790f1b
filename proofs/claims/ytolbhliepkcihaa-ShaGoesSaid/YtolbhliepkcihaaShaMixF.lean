/- sha.Mix, the exported one: the walk. -/
import Derived.Test.YtolbhliepkcihaaShaStub
namespace Go.Proofs.Ytolbhliepkcihaa.Sha
open Go.RowKit Go.Proofs.Ytolbhliepkcihaa.QR Go.Proofs.Ytolbhliepkcihaa.Mem Go.Proofs.YtolbhliepkcihaaW.PrintWords Go.Proofs.YtolbhliepkcihaaW.PrintLast Go.Proofs.YtolbhliepkcihaaW.PrintMore
theorem load8g (f : Nat → Int) (ad : Addr) (w : World) (h : ∀ i, i < 8 → w.cell? (ad.add i) = some (.int .u32 (f i))) : (loadVar 86 ad).run Try.prog w = .ok (.agg (ka .u32 8 f)) w := by
  have hl : (loadCells ad (ka .u32 8 f).toList.length).run Try.prog w = .ok (ka .u32 8 f).toList.toArray w :=
    run_loadCells_list (P := Try.prog) w ad (ka .u32 8 f).toList (fun j v hv => by
      have hj : j < 8 := by
        have := (List.getElem?_eq_some_iff.1 hv).1
        rw [Array.length_toList, ka_size] at this
        exact this
      rw [h j hj, ← ka_at f hj]
      simpa using hv)
  have hi := size8 f
  have hu := Try.underlying86
  cases hq : Try.prog.info? 86 with
  | none => simp [hq] at hi
  | some i =>
    have hs : i.size = (ka .u32 8 f).size := by simpa [hq] using hi
    have hagg : (isAgg 86).run Try.prog w = .ok true w := by
      unfold isAgg
      rw [Sem.run_bind, run_underlying hu w]
      rfl
    simp only [Array.length_toList, Array.toArray_toList] at hl
    simp [loadVar, Sem.run_bind, hagg, sizeOf, typeInfo, hq, hs, hl]
theorem alloc8 (w : World) : (Instr.alloc 86 true (.tuple #[])).run Try.prog w = .ok (.pointer (some ⟨w.heap.size, 0, none⟩)) (w.alloc (.cells (ka .u32 8 fun _ => 0) 86)) := by
  kernel_rfl
set_option maxRecDepth 100000 in
set_option maxHeartbeats 4000000 in
theorem mixf_any (s : St) (hs : s.Ok) (b : ByteArray) (hb : b.size = 64) (ad : Addr) (cap : Nat) (w : World) (ho : ∀ i, i < 8 → w.cell? (ad.add i) = some (.int .u32 ((s.at i : Nat) : Int))) :
    Calls Try.prog 29 #[.slice (some ad) 8 cap, .string b] w fun e w' => ∃ v, e = .returned (.tuple #[v, .int .i64 0]) ∧ w'.ownsRow w.heap.size 86 1 v 8 (u32L (mixS s b).list) ∧ Below w.heap.size w w' := by
  obtain ⟨g, hg⟩ : ∃ g, w.heap.size = g := ⟨_, rfl⟩
  have HB := Lib.hid hb
  have HS := Lib.hid hs
  have HG := Lib.hid hg
  have hbI : (b.size : Int) = 64 := by omega
  have harr := arrayAt8 (some ad) cap
  have HC := Lib.hid ho
  clear ho hs hb
  rw [hg]
  go_enter Try.func29, Try.ntmps29
  go_wp2
  refine start_ (n := 8) (S := fun w' => ∀ i, i < 8 → w'.cell? (ad.add i) = some (.int .u32 ((s.at i : Nat) : Int))) (ds := []) #[false, false, false, false, false, false, false, false] (by kernel_rfl) rfl rfl (HC.out) (fun hHeld => ?_)
  refine pure_ (i := 0) (N := some 15) (v := ?_) (a' := ?_) #[true, false, false, false, false, false, false, false] rfl rfl (by kernel_rfl) (fun _ _ _ h => h) (Or.inl ⟨by rfl, ?_⟩) ?_ ?_
  rotate_left
  · intro w'
    go_simp
    with_reducible rfl
  rotate_left
  · simp only [Act.put, List.setIfInBounds_toArray, List.set_cons_zero, List.set_cons_succ]
    rfl
  refine pure_ (i := 1) (N := some 16) (v := .pointer (some ad)) (a' := ?_) #[true, true, false, false, false, false, false, false] rfl rfl (by kernel_rfl) (fun _ _ _ h => h) (Or.inl ⟨by rfl, ?_⟩) ?_ ?_
  · intro w'
    have h := harr w'
    simp [execOp, Act.eval, h]
  rotate_left
  · simp only [Act.put, List.setIfInBounds_toArray, List.set_cons_zero, List.set_cons_succ]
    rfl
  refine take_ (i := 2) (N := some 17) (v := .agg s.arr) (a' := ?_) #[true, true, true, false, false, false, false, false] rfl rfl (by kernel_rfl) (fun _ _ _ h => h) (Or.inl ⟨by rfl, ?_⟩) hHeld ?_ ?_
  · intro w' hS
    have hld := load8g (fun i => ((s.at i : Nat) : Int)) ad w' hS
    rw [← St.arr_eq] at hld
    simp [execOp, Act.eval, Instr.loadAt, Instr.sureAddr, hld]
  rotate_left
  · simp only [Act.put, List.setIfInBounds_toArray, List.set_cons_zero, List.set_cons_succ]
    rfl
  refine pure_ (i := 4) (N := some 19) (v := ?_) (a' := ?_) #[true, true, true, false, true, false, false, false] rfl rfl (by kernel_rfl) (fun _ _ _ h => h) (Or.inl ⟨by rfl, ?_⟩) ?_ ?_
  rotate_left
  · intro w'
    go_simp
    with_reducible rfl
  rotate_left
  · simp only [Act.put, List.setIfInBounds_toArray, List.set_cons_zero, List.set_cons_succ]
    rfl
  refine join_ (σ := Nat × Nat × Nat) 1 #[true, true, true, true, true, true, true, false] (fun q => [(18, .slice (some ⟨q.1, 0, none⟩) 64 q.2.1), (20, .agg (mixS s b).arr), (6, .pointer (some ⟨q.2.2, 0, none⟩))])
    (fun q w' => Blk w' q.2.2 86 (ka .u32 8 fun _ => 0) ∧ g ≤ q.2.2 ∧ Below g w w' ∧ ∀ i, i < 8 → w'.cell? (ad.add i) = some (.int .u32 ((s.at i : Nat) : Int))) ?cont (fun hJ => ?_)
  case cont =>
    rintro ⟨kb, kc, nb⟩ w' ⟨A, hnb, B, hHeld⟩
    have hz := B.size
    rw [HG.out] at hz
    refine norm_ (a' := ?_) ?_ ?_
    rotate_left
    · simp only [putAll, Act.put, List.setIfInBounds_toArray, List.set_cons_zero, List.set_cons_succ]
      rfl
    refine one_ (i := 7) (N := none) #[true, true, true, true, true, true, true, true] rfl rfl (by kernel_rfl) (by decide) (fun K hK => ?_)
    rw [if_pos (by rfl)]
    refine wp_store_row 86 _ _ rfl nb (mixS s b).arr rfl rfl 86 _ A (size8s _) (by rw [St.arr_eq, ka_size, ka_size]) (one8s _) ?_
    have A := A.row (mixS s b).arr
    have B := below_row B hnb (mixS s b).arr
    have hH : ∀ i, i < 8 → (w'.setRow nb (mixS s b).arr).cell? (ad.add i) = some (.int .u32 ((s.at i : Nat) : Int)) := fun i hi => (B.cell (HG.out ▸ World.block_lt_of_cell? _ _ (HC.out i hi))).trans (HC.out i hi)
    refine hK.out _ _ hH (fun hHeld => ?_)
    refine done_ (by kernel_rfl) ?_
    clear hK K hH
    go_wp2
    go_ret2
    exact ⟨.slice (some ⟨nb, 0, none⟩) 8 8, rfl, ⟨rfl, .inr ⟨nb, 8, _, rfl, hnb, A, Nat.le_refl _, by decide, rfl, rfl⟩⟩, B⟩
  have B : Below g w w.drew := Mem.below_drew (by rw [← hg]; exact Below.refl _ _)
  refine two_ (i := 3) (j := 6) (Ni := some 18) (Nj := some 6) #[true, true, true, true, true, false, false, false] #[true, true, true, false, true, false, true, false] rfl rfl rfl rfl (by kernel_rfl) (by decide) (by decide) (fun K hK => ?_) (fun K hK => ?_)
  · refine goes_ Try.func19 (by kernel_rfl) rfl #[] (by rfl) rfl rfl (by (try simp only [List.map_toArray, List.map_nil]); first | done | rfl) ?_
    refine (keys_any _).mono ?_
    rintro e w1 ⟨v1, rfl, ho1, hb1⟩
    obtain ⟨kb, kc, rfl, hkb, hkc, hkl, hk⟩ := own_cells ho1 (by decide)
    refine ⟨_, rfl, ?_⟩
    have hz := B.size
    replace B := Below.trans B (hb1.mono (by omega))
    have hH := fun i (hi : i < 8) => (hb1.cell (World.block_lt_of_cell? _ _ (hHeld i hi))).trans (hHeld i hi)
    refine hK.out _ _ hH (fun hHeld => ?_)
    clear hK K hH hb1 ho1 hz
    refine norm_ (a' := ?_) ?_ ?_
    rotate_left
    · simp only [Act.put, List.setIfInBounds_toArray, List.set_cons_zero, List.set_cons_succ]
      rfl
    refine two_ (i := 5) (j := 6) (Ni := some 20) (Nj := some 6) #[true, true, true, true, true, true, false, false] #[true, true, true, true, true, false, true, false] rfl rfl rfl rfl (by kernel_rfl) (by decide) (by decide) (fun K hK => ?_) (fun K hK => ?_)
    · refine goes_ Try.func72 (by kernel_rfl) rfl #[.agg s.arr, .slice (some ⟨kb, 0, none⟩) 64 kc, .string b] (by rfl) rfl rfl (by (try simp only [List.map_toArray, List.map_cons, List.map_nil]); first | done | rfl) ?_
      refine (mix_any s HS.out b HB.out kb kc hkc _ hk).mono ?_
      rintro e w2 ⟨rfl, hb1⟩
      refine ⟨_, rfl, ?_⟩
      have hz := B.size
      replace B := Below.trans B (hb1.mono (by omega))
      have hH := fun i (hi : i < 8) => (hb1.cell (World.block_lt_of_cell? _ _ (hHeld i hi))).trans (hHeld i hi)
      refine hK.out _ _ hH (fun hHeld => ?_)
      clear hK K hH hb1 hz hk
      refine norm_ (a' := ?_) ?_ ?_
      rotate_left
      · simp only [Act.put, List.setIfInBounds_toArray, List.set_cons_zero, List.set_cons_succ]
        rfl
      refine one_ (i := 6) (N := some 6) #[true, true, true, true, true, true, true, false] rfl rfl (by kernel_rfl) (by decide) (fun K hK => ?_)
      refine value_ (w1 := w2.alloc (.cells (ka .u32 8 fun _ => 0) 86)) (v := .pointer (some ⟨w2.heap.size, 0, none⟩)) rfl rfl (by simp [execOp, alloc8]) ?_
      have A := Blk.new w2 86 (ka .u32 8 fun _ => 0)
      have hnb := B.size
      rw [HG.out] at hnb
      replace B := B.alloc hnb (.cells (ka .u32 8 fun _ => 0) 86)
      have hH := fun i (hi : i < 8) => ((((Below.refl w2.heap.size w2).alloc (Nat.le_refl _) (.cells (ka .u32 8 fun _ => 0) 86)).cell (World.block_lt_of_cell? _ _ (hHeld i hi))).trans (hHeld i hi))
      refine hK.out _ _ hH (fun hHeld => ?_)
      clear hK K hH
      obtain ⟨nb, hnbe⟩ : ∃ nb, w2.heap.size = nb := ⟨_, rfl⟩
      rw [hnbe] at A hnb ⊢
      generalize w2.alloc (.cells (ka .u32 8 fun _ => 0) 86) = wa at *
      refine norm_ (a' := ?_) ?_ ?_
      rotate_left
      · simp only [Act.put, List.setIfInBounds_toArray, List.set_cons_zero, List.set_cons_succ]
        rfl
      exact norm_ (by simp only [putAll, Act.put, List.setIfInBounds_toArray, List.set_cons_zero, List.set_cons_succ]) (hJ (kb, kc, nb) _ ⟨A, hnb, B, hHeld⟩)
    · refine value_ (w1 := w1.alloc (.cells (ka .u32 8 fun _ => 0) 86)) (v := .pointer (some ⟨w1.heap.size, 0, none⟩)) rfl rfl (by simp [execOp, alloc8]) ?_
      have A := Blk.new w1 86 (ka .u32 8 fun _ => 0)
      have hnb := B.size
      rw [HG.out] at hnb
      replace B := B.alloc hnb (.cells (ka .u32 8 fun _ => 0) 86)
      have hH := fun i (hi : i < 8) => ((((Below.refl w1.heap.size w1).alloc (Nat.le_refl _) (.cells (ka .u32 8 fun _ => 0) 86)).cell (World.block_lt_of_cell? _ _ (hHeld i hi))).trans (hHeld i hi))
      replace hk := fun i (hi : i < 64) => ((((Below.refl w1.heap.size w1).alloc (Nat.le_refl _) (.cells (ka .u32 8 fun _ => 0) 86)).cell (World.block_lt_of_cell? _ _ (hk i hi))).trans (hk i hi))
      refine hK.out _ _ hH (fun hHeld => ?_)
      clear hK K hH
      obtain ⟨nb, hnbe⟩ : ∃ nb, w1.heap.size = nb := ⟨_, rfl⟩
      rw [hnbe] at A hnb ⊢
      generalize w1.alloc (.cells (ka .u32 8 fun _ => 0) 86) = wa at *
      refine norm_ (a' := ?_) ?_ ?_
      rotate_left
      · simp only [Act.put, List.setIfInBounds_toArray, List.set_cons_zero, List.set_cons_succ]
        rfl
      refine one_ (i := 5) (N := some 20) #[true, true, true, true, true, true, true, false] rfl rfl (by kernel_rfl) (by decide) (fun K hK => ?_)
      refine goes_ Try.func72 (by kernel_rfl) rfl #[.agg s.arr, .slice (some ⟨kb, 0, none⟩) 64 kc, .string b] (by rfl) rfl rfl (by (try simp only [List.map_toArray, List.map_cons, List.map_nil]); first | done | rfl) ?_
      refine (mix_any s HS.out b HB.out kb kc hkc _ hk).mono ?_
      rintro e w2 ⟨rfl, hb1⟩
      refine ⟨_, rfl, ?_⟩
      have hz := B.size
      replace B := Below.trans B (hb1.mono (by omega))
      replace A := A.below hb1 A.lt
      have hH := fun i (hi : i < 8) => (hb1.cell (World.block_lt_of_cell? _ _ (hHeld i hi))).trans (hHeld i hi)
      refine hK.out _ _ hH (fun hHeld => ?_)
      clear hK K hH hb1 hz hk
      refine norm_ (a' := ?_) ?_ ?_
      rotate_left
      · simp only [Act.put, List.setIfInBounds_toArray, List.set_cons_zero, List.set_cons_succ]
        rfl
      exact norm_ (by simp only [putAll, Act.put, List.setIfInBounds_toArray, List.set_cons_zero, List.set_cons_succ]) (hJ (kb, kc, nb) _ ⟨A, hnb, B, hHeld⟩)
  · refine value_ (w1 := w.drew.alloc (.cells (ka .u32 8 fun _ => 0) 86)) (v := .pointer (some ⟨w.drew.heap.size, 0, none⟩)) rfl rfl (by simp [execOp, alloc8]) ?_
    have A := Blk.new w.drew 86 (ka .u32 8 fun _ => 0)
    have hnb := B.size
    rw [HG.out] at hnb
    replace B := B.alloc hnb (.cells (ka .u32 8 fun _ => 0) 86)
    have hH := fun i (hi : i < 8) => ((((Below.refl w.drew.heap.size w.drew).alloc (Nat.le_refl _) (.cells (ka .u32 8 fun _ => 0) 86)).cell (World.block_lt_of_cell? _ _ (hHeld i hi))).trans (hHeld i hi))
    refine hK.out _ _ hH (fun hHeld => ?_)
    clear hK K hH
    obtain ⟨nb, hnbe⟩ : ∃ nb, w.drew.heap.size = nb := ⟨_, rfl⟩
    rw [hnbe] at A hnb ⊢
    generalize w.drew.alloc (.cells (ka .u32 8 fun _ => 0) 86) = wa at *
    refine norm_ (a' := ?_) ?_ ?_
    rotate_left
    · simp only [Act.put, List.setIfInBounds_toArray, List.set_cons_zero, List.set_cons_succ]
      rfl
    refine one_ (i := 3) (N := some 18) #[true, true, true, true, true, false, true, false] rfl rfl (by kernel_rfl) (by decide) (fun K hK => ?_)
    refine goes_ Try.func19 (by kernel_rfl) rfl #[] (by rfl) rfl rfl (by (try simp only [List.map_toArray, List.map_nil]); first | done | rfl) ?_
    refine (keys_any _).mono ?_
    rintro e w1 ⟨v1, rfl, ho1, hb1⟩
    obtain ⟨kb, kc, rfl, hkb, hkc, hkl, hk⟩ := own_cells ho1 (by decide)
    refine ⟨_, rfl, ?_⟩
    have hz := B.size
    replace B := Below.trans B (hb1.mono (by omega))
    replace A := A.below hb1 A.lt
    have hH := fun i (hi : i < 8) => (hb1.cell (World.block_lt_of_cell? _ _ (hHeld i hi))).trans (hHeld i hi)
    refine hK.out _ _ hH (fun hHeld => ?_)
    clear hK K hH hb1 ho1 hz
    refine norm_ (a' := ?_) ?_ ?_
    rotate_left
    · simp only [Act.put, List.setIfInBounds_toArray, List.set_cons_zero, List.set_cons_succ]
      rfl
    refine one_ (i := 5) (N := some 20) #[true, true, true, true, true, true, true, false] rfl rfl (by kernel_rfl) (by decide) (fun K hK => ?_)
    refine goes_ Try.func72 (by kernel_rfl) rfl #[.agg s.arr, .slice (some ⟨kb, 0, none⟩) 64 kc, .string b] (by rfl) rfl rfl (by (try simp only [List.map_toArray, List.map_cons, List.map_nil]); first | done | rfl) ?_
    refine (mix_any s HS.out b HB.out kb kc hkc _ hk).mono ?_
    rintro e w2 ⟨rfl, hb1⟩
    refine ⟨_, rfl, ?_⟩
    have hz := B.size
    replace B := Below.trans B (hb1.mono (by omega))
    replace A := A.below hb1 A.lt
    have hH := fun i (hi : i < 8) => (hb1.cell (World.block_lt_of_cell? _ _ (hHeld i hi))).trans (hHeld i hi)
    refine hK.out _ _ hH (fun hHeld => ?_)
    clear hK K hH hb1 hz hk
    refine norm_ (a' := ?_) ?_ ?_
    rotate_left
    · simp only [Act.put, List.setIfInBounds_toArray, List.set_cons_zero, List.set_cons_succ]
      rfl
    exact norm_ (by simp only [putAll, Act.put, List.setIfInBounds_toArray, List.set_cons_zero, List.set_cons_succ]) (hJ (kb, kc, nb) _ ⟨A, hnb, B, hHeld⟩)
set_option maxRecDepth 100000 in
theorem mixf_bad (A : Option Addr) (n cap : Nat) (b : ByteArray) (h : ¬ (n = 8 ∧ b.size = 64)) (w : World) :
    Calls Try.prog 29 #[.slice A n cap, .string b] w fun e w' => e = .returned (.tuple #[.slice none 0 0, .int .i64 4]) ∧ Below w.heap.size w w' := by
  go_enter Try.func29, Try.ntmps29
  have B := Below.refl w.heap.size w
  by_cases h1 : n = 8
  · have h2 : ¬ b.size = 64 := fun h2 => h ⟨h1, h2⟩
    have h3 : ¬ (b.size : Int) = 64 := by omega
    subst h1
    clear h h2
    go_wp2
    go_ret2
    exact ⟨rfl, B⟩
  · have h3 : ¬ (n : Int) = 8 := by omega
    clear h h1
    go_wp2
    go_ret2
    exact ⟨rfl, B⟩
theorem F_all {k : IntKind} {w : World} {A : Option Addr} {n : Nat} {l : List Int} (h : Kd.C (Kd.int k) w A n l) : Kd.F (Kd.int k) w (fun _ => True) A n l := by
  intro w' hh
  obtain ⟨h1, h2, h3⟩ := h
  refine ⟨h1, h2, fun h0 => ?_⟩
  obtain ⟨ad, e, hc⟩ := h3 h0
  refine ⟨ad, e, fun j p hj => ?_⟩
  obtain ⟨c, h4, h5, h6⟩ := hc j p hj
  refine ⟨c, h4, h5, fun i u hu => ?_⟩
  have h7 := h6 i u hu
  exact (World.cell?_of_block (hh _ trivial (World.block_lt_of_cell? _ _ h7))).trans h7
/-- numbers of 32 bits -/
def okU (l : List Int) : Bool := l.all fun x => decide (0 ≤ x ∧ x < 4294967296)
def stOf (l : List Int) : St := ⟨(l.getD 0 0).toNat, (l.getD 1 0).toNat, (l.getD 2 0).toNat, (l.getD 3 0).toNat, (l.getD 4 0).toNat, (l.getD 5 0).toNat, (l.getD 6 0).toNat, (l.getD 7 0).toNat⟩
theorem okU_at {l : List Int} (h : okU l = true) (i : Nat) : 0 ≤ l.getD i 0 ∧ l.getD i 0 < 4294967296 := by
  rw [List.getD_eq_getElem?_getD]
  by_cases hi : i < l.length
  · rw [List.getElem?_eq_getElem hi]
    have h1 := List.all_eq_true.1 h _ (List.getElem_mem hi)
    simpa using h1
  · rw [List.getElem?_eq_none (by omega)]
    simp
theorem stOf_ok {l : List Int} (h : okU l = true) : (stOf l).Ok := by
  have h0 := okU_at h 0
  have h1 := okU_at h 1
  have h2 := okU_at h 2
  have h3 := okU_at h 3
  have h4 := okU_at h 4
  have h5 := okU_at h 5
  have h6 := okU_at h 6
  have h7 := okU_at h 7
  refine ⟨?_, ?_, ?_, ?_, ?_, ?_, ?_, ?_⟩ <;> simp only [stOf] <;> omega
theorem stOf_at {l : List Int} (h : okU l = true) (i : Nat) (hi : i < 8) : (((stOf l).at i : Nat) : Int) = l.getD i 0 := by
  have h0 := okU_at h i
  have : i = 0 ∨ i = 1 ∨ i = 2 ∨ i = 3 ∨ i = 4 ∨ i = 5 ∨ i = 6 ∨ i = 7 := by omega
  rcases this with rfl | rfl | rfl | rfl | rfl | rfl | rfl | rfl <;> exact Int.toNat_of_nonneg h0.1
end Go.Proofs.Ytolbhliepkcihaa.Sha
namespace Go.Proofs.Ytolbhliepkcihaa
open Go.RowKit Go.Proofs.YtolbhliepkcihaaW.PrintWords Go.Proofs.YtolbhliepkcihaaW.PrintLast Go.Proofs.YtolbhliepkcihaaW.PrintMore Go.Proofs.Ytolbhliepkcihaa.Sha
def sha_Mix.f (l0 : List Int) (a1 : ByteArray) : Option (List Int × Int) := if l0.length = 8 ∧ a1.size = 64 then (if okU l0 = true then some (ints (mixS (stOf l0) a1).list, 0) else none) else some ([], 4)
theorem sha_Mix.calls (A0 : Option Addr) (c0 : Nat) (l0 : List Int) (a1 : ByteArray) (r : List Int) (r2 : Int) (w : World) (hr0 : Kd.C (Kd.int .u32) w A0 l0.length l0) (_hc0 : l0.length ≤ c0) (h : sha_Mix.f l0 a1 = some (r, r2)) :
    Calls Try.prog 29 #[.slice A0 l0.length c0, .string a1] w fun e w' => ∃ v0_ : Value, e = .returned (.tuple #[v0_, .int .i64 r2]) ∧ Kd.R (Kd.int .u32) 86 w' w.heap.size (fun _ => True) v0_ r ∧ Below w.heap.size w w' := by
  unfold sha_Mix.f at h
  split at h
  · rename_i hc
    obtain ⟨hl, hb⟩ := hc
    split at h
    · rename_i hu
      injection h with h
      injection h with h1 h2
      subst h1
      subst h2
      obtain ⟨ad, rfl, hcell⟩ := hr0.2.2 (by omega)
      rw [hl]
      refine (mixf_any (stOf l0) (stOf_ok hu) a1 hb ad c0 w (fun i hi => ?_)).mono fun e w' ⟨v, he, ho, hB⟩ => ⟨v, he, ?_, hB⟩
      · have hi' : i < l0.length := by omega
        obtain ⟨c, _, hk, hu2⟩ := hcell i _ (List.getElem?_eq_getElem hi')
        have hk : c = [.int .u32 l0[i]] := hk
        subst hk
        have h3 := hu2 0 _ rfl
        rw [stOf_at hu i hi, List.getD_eq_getElem?_getD, List.getElem?_eq_getElem hi']
        rw [show i * (Kd.int .u32).sz + 0 = i from by show i * 1 + 0 = i; omega] at h3
        exact h3
      · rw [numsL] at ho
        exact Kd.R_of_own (enc := Value.int .u32) (xs := ints (mixS (stOf l0) a1).list) ho (fun _ _ => trivial)
    · cases h
  · rename_i hc
    injection h with h
    injection h with h1 h2
    subst h1
    subst h2
    exact (mixf_bad A0 l0.length c0 a1 hc w).mono fun e w' ⟨he, hB⟩ => ⟨_, he, Kd.R_nil _ _ _ _ _, hB⟩
def saltusref03_Mix.f := @QR.saltusref03_Mix.f
theorem saltusref03_Mix.mono : ∀ a0 a1 k, LeO (saltusref03_Mix.f k a0 a1) (saltusref03_Mix.f (k + 1) a0 a1) := QR.saltusref03_Mix.mono
theorem saltusref03_Mix.calls (k : Nat) (A0 : Option Addr) (c0 : Nat) (l0 : List Int) (a1 : ByteArray) (r : List Int) (w : World) (hr0 : Kd.C (Kd.int .u32) w A0 l0.length l0) (hc0 : l0.length ≤ c0) (h : saltusref03_Mix.f k l0 a1 = some r) :
    Calls Try.prog 31 #[.slice A0 l0.length c0, .string a1] w fun e w' => ∃ v0_ : Value, e = .returned (v0_) ∧ Kd.R (Kd.int .u32) 25 w' w.heap.size (fun _ => True) v0_ r ∧ Below w.heap.size w w' :=
  (QR.saltusref03_Mix.calls k (fun _ => True) A0 c0 l0 a1 r w (Kd.V_mk hc0 (F_all hr0)) h).mono fun _ _ ⟨v, he, ho, hB⟩ => ⟨v, he, Kd.R_mono ho (fun _ _ => trivial), hB⟩
def saltusref03_Same.f := @QR.saltusref03_Same.f
theorem saltusref03_Same.mono : ∀ a0 a1 k, LeO (saltusref03_Same.f k a0 a1) (saltusref03_Same.f (k + 1) a0 a1) := QR.saltusref03_Same.mono
theorem saltusref03_Same.calls (k : Nat) (A0 : Option Addr) (c0 : Nat) (l0 : List Int) (A1 : Option Addr) (c1 : Nat) (l1 : List Int) (r : Bool) (w : World) (hr0 : Kd.C (Kd.int .u32) w A0 l0.length l0) (hc0 : l0.length ≤ c0) (hr1 : Kd.C (Kd.int .u32) w A1 l1.length l1) (hc1 : l1.length ≤ c1) (h : saltusref03_Same.f k l0 l1 = some r) :
    Calls Try.prog 30 #[.slice A0 l0.length c0, .slice A1 l1.length c1] w fun e w' => e = .returned (.bool r) ∧ Drawn0 w w' :=
  QR.saltusref03_Same.calls k A0 c0 l0 A1 c1 l1 r w hr0 hc0 hr1 hc1 h
end Go.Proofs.Ytolbhliepkcihaa
