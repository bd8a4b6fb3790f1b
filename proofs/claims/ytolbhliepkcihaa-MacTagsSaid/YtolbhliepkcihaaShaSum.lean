/- SHA-256: a text's sum: the walk. -/
import Derived.Test.YtolbhliepkcihaaShaPad
import Derived.Test.YtolbhliepkcihaaShaRoots2
import Derived.Maps.AppendAt
namespace Go.Proofs.Ytolbhliepkcihaa.Sha
open Go.RowKit Go.Proofs.Ytolbhliepkcihaa.QR Go.Proofs.Ytolbhliepkcihaa.Mem Go.Proofs.YtolbhliepkcihaaW.PrintWords Go.Proofs.YtolbhliepkcihaaW.PrintLast Go.Proofs.YtolbhliepkcihaaW.PrintMore
theorem wpList_load_at {P : Program} {ops : Array Oper} {rest : List Oper} {o : Oper} {a : Act} {w : World} {Q : Exit → Act → World → Prop} (hgd : o.guard = none) (ty : TypeId) (x : Operand) (ho : o.op = .load ty x)
    (A : Addr) (hx : a.eval x = .pointer (some A)) (v : Value) (hv : (loadVar ty A).run P w = .ok v w)
    (h : wpList P ops Q rest (a.put o.dst v) w) : wpList P ops Q (o :: rest) a w :=
  wpList_plain hgd fun _ hK => by
    unfold Oper.wp execOp
    simp only [ho, hx, Instr.loadAt, Instr.sureAddr, Sem.run_bind, Sem.run_pure, Result.andThen_ok, hv]
    exact hK _ _ h
def strLen : Value → Nat
  | .string s => s.size
  | _ => 0
theorem arrayAt8 (A : Option Addr) (c : Nat) (w : World) : (Instr.arrayAt 86 (.slice A 8 c)).run Try.prog w = .ok (.pointer A) w := by
  have hu : Try.prog.underlying 86 = some (.array 8 25) := by kernel_rfl
  simp [Instr.arrayAt, run_underlying hu]
theorem load8 (f : Nat → Int) (g c : Nat) (w : World) (h : ∀ i, i < 8 → w.cell? ⟨g, c + i, none⟩ = some (.int .u32 (f i))) : (loadVar 86 ⟨g, c, none⟩).run Try.prog w = .ok (.agg (ka .u32 8 f)) w := by
  have hl : (loadCells ⟨g, c, none⟩ (ka .u32 8 f).toList.length).run Try.prog w = .ok (ka .u32 8 f).toList.toArray w :=
    run_loadCells_list (P := Try.prog) w ⟨g, c, none⟩ (ka .u32 8 f).toList (fun j v hv => by
      have hj : j < 8 := by
        have := (List.getElem?_eq_some_iff.1 hv).1
        rw [Array.length_toList, ka_size] at this
        exact this
      have hadd : (⟨g, c, none⟩ : Addr).add j = ⟨g, c + j, none⟩ := by unfold Addr.add; split <;> simp_all
      rw [hadd, h j hj, ← ka_at f hj]
      simpa using hv)
  have hi := size8 f
  have hu := Try.underlying86
  cases hq : Try.prog.info? 86 with
  | none => simp [hq] at hi
  | some i =>
    have hs : i.size = (ka .u32 8 f).size := by simpa [hq] using hi
    have hagg : (isAgg 86).run Try.prog w = .ok true w := by
      unfold isAgg
      rw [Sem.run_bind, run_underlying hu w]
      rfl
    simp only [Array.length_toList, Array.toArray_toList] at hl
    simp [loadVar, Sem.run_bind, hagg, sizeOf, typeInfo, hq, hs, hl]
theorem index8 (f : Nat → Int) (t : Nat) (ht : t < 8) (w : World) : (Instr.index 86 (.agg (ka .u32 8 f)) (.int .i64 (t : Int))).run Try.prog w = .ok (.int .u32 (f t)) w := by
  have hs : (sizeOf 25).run Try.prog w = .ok 1 w := by kernel_rfl
  have ha : (isAgg 25).run Try.prog w = .ok false w := by kernel_rfl
  simp [Instr.index, asIntOf, run_underlying Try.underlying86, ht, hs, part, ha, Sem.run_bind, Result.andThen, ka_at _ ht]
/-- a row of cells that a call has made -/
theorem own_cells {w : World} {base : Nat} {e : TypeId} {n : Nat} {v : Value} {l : List Nat} (h : w.ownsRow base e 1 v n (u32L l)) (hn : 0 < n) :
    ∃ g cap, v = .slice (some ⟨g, 0, none⟩) n cap ∧ base ≤ g ∧ n ≤ cap ∧ g < w.heap.size ∧ ∀ i, i < n → w.cell? ⟨g, i, none⟩ = some (.int .u32 ((l.getD i 0 : Nat) : Int)) := by
  have hlen : l.length = n := by have := h.1; simpa [u32L] using this
  have h0 := h
  rcases h.2 with ⟨_, h1⟩ | ⟨g, cap, cur, rfl, hb, hg, hc, _⟩
  · omega
  · refine ⟨g, cap, rfl, hb, hc, (Array.getElem?_eq_some_iff.1 hg).1, fun i hi => ?_⟩
    have h2 : w.ownsRow base e 1 (.slice (some ⟨g, 0, none⟩) n cap) n (u32L l) := h0
    rw [h2.cellAt i (by omega)]
    simp [u32L, List.getD_eq_getElem?_getD, List.getElem?_eq_getElem (show i < l.length by omega)]
theorem start_at (i : Nat) (hi : i < 8) : startL.getD i 0 = start.at i := by
  have : i = 0 ∨ i = 1 ∨ i = 2 ∨ i = 3 ∨ i = 4 ∨ i = 5 ∨ i = 6 ∨ i = 7 := by omega
  rcases this with rfl | rfl | rfl | rfl | rfl | rfl | rfl | rfl <;> rfl
theorem pad_size (s : ByteArray) : (padS s).size = s.size + 9 + zerosN s.size := by
  unfold padS
  rw [ByteArray.size_append, ByteArray.size_append, ByteArray.size_append, ofNats_size, ofNats_size, List.length_replicate]
  have h1 : (⟨#[128]⟩ : ByteArray).size = 1 := rfl
  have h2 : ∀ n, (high8 n).length = 8 := fun _ => rfl
  rw [h1, h2]
  omega
theorem pad_mod (s : ByteArray) : (padS s).size % 64 = 0 := by rw [pad_size]; unfold zerosN; omega
theorem extract_size (p : ByteArray) (i : Nat) (h : 64 * i + 64 ≤ p.size) : (p.extract (64 * i) (64 * i + 64)).size = 64 := by rw [ByteArray.size_extract]; omega
/-- the bytes of the first t numbers of a state -/
def outTo (s : St) (t : Nat) : List Nat := (s.list.take t).flatMap high4
theorem outTo_succ (s : St) (t : Nat) (ht : t < 8) : outTo s (t + 1) = outTo s t ++ high4 (s.at t) := by
  unfold outTo
  have hl : s.list.length = 8 := rfl
  rw [List.take_succ_eq_append_getElem (by omega), List.flatMap_append]
  congr 1
  simp only [List.flatMap_cons, List.flatMap_nil, List.append_nil]
  congr 1
  unfold St.at
  rw [List.getD_eq_getElem?_getD, List.getElem?_eq_getElem (by omega)]
  rfl
theorem outTo_length (s : St) : ∀ t, t ≤ 8 → (outTo s t).length = 4 * t
  | 0, _ => rfl
  | t + 1, h => by rw [outTo_succ s t (by omega), List.length_append, outTo_length s t (by omega)]; simp [high4]; omega
theorem u8_info : (Try.prog.info? 5).map (fun i => (i.zero, i.size, i.bytes)) = some (some (.int .u8 0), 1, 1) := by kernel_rfl
theorem ints_append (a b : List Nat) : ints (a ++ b) = ints a ++ ints b := by simp [ints]
theorem below_alloc_grown {B : Nat} {w W W' : World} {row : Option Nat} {o : Obj} (h : Below B w W) (hB : B ≤ W.heap.size) (hg : (W.alloc o).grownBy W' row) (hr : ∀ k, row = some k → B ≤ k) : Below B w W' :=
  (h.alloc hB o).grown hg (by simp; omega) hr
set_option maxRecDepth 100000 in
set_option maxHeartbeats 4000000 in
theorem sum_any (s : ByteArray) (hs : s.size ≤ 1099511627776) (w : World) :
    Calls Try.prog 26 #[.string s] w fun e w' => e = .returned (.string (sumS s)) ∧ Below w.heap.size w w' := by
  obtain ⟨g, hg⟩ : ∃ g, w.heap.size = g := ⟨_, rfl⟩
  have HG := Lib.hid hg
  have hmod := pad_mod s
  have hps := pad_size s
  have hzn : zerosN s.size ≤ 63 := by unfold zerosN; omega
  have HPAD := Lib.hid (pad_any s hs)
  have hsum : sumS s = ofNats (outL (goS (padS s) ((padS s).size / 64))) := rfl
  have HSUM := Lib.hid hsum
  obtain ⟨N, hN⟩ : ∃ N, (padS s).size / 64 = N := ⟨_, rfl⟩
  have hpN : (padS s).size = 64 * N := by omega
  have hN1 : 64 * N ≤ 1099511627776 + 72 := by omega
  rw [hN] at HSUM
  have HP := Lib.hid hpN
  clear hsum hmod hps hzn hpN hN hs
  generalize padS s = p at *
  generalize sumS s = sm at *
  rw [hg]
  go_enter Try.func26, Try.ntmps26
  go_wp2_with fail
  refine (keys_any _).mono ?_
  rintro e w1 ⟨v1, rfl, ho1, hb1⟩
  obtain ⟨kb, kcap, rfl, hkb, hkc, hkl, hk⟩ := own_cells ho1 (by decide)
  have HK := Lib.hid hk
  clear ho1 hk
  go_wp2_with fail
  refine (start_any _).mono ?_
  rintro e w2 ⟨v2, rfl, ho2, hb2⟩
  obtain ⟨sb, scap, rfl, hsb, hsc, hsl, hst⟩ := own_cells ho2 (by decide)
  have harr := arrayAt8 (some ⟨sb, 0, none⟩) scap
  have hld := Lib.hid (load8 (fun i => ((start.at i : Nat) : Int)) sb 0 w2 (fun i hi => by rw [Nat.zero_add, hst i hi, start_at i hi]))
  clear ho2 hst
  have bw2 : Below g w w2 := by rw [← hg]; exact Bel.step hb1 hb2
  have hz2 : g ≤ w2.heap.size := by have := bw2.size; omega
  have HK2 : ∀ i, i < 64 → w2.cell? ⟨kb, i, none⟩ = some (.int .u32 ((keyN i : Nat) : Int)) := fun i hi => (World.cell?_of_block (a := ⟨kb, i, none⟩) (hb2.block kb hkl)).trans (HK.out i hi)
  have hkl2 : kb < w2.heap.size := Nat.lt_of_lt_of_le hkl hb2.size
  have HKK := Lib.hid HK2
  clear HK2
  obtain ⟨nb, hnb⟩ : ∃ nb, w2.heap.size = nb := ⟨_, rfl⟩
  have A2 := Blk.new w2 86 (ka .u32 8 fun _ => 0)
  have b2 := bw2.alloc hz2 (.cells (ka .u32 8 fun _ => 0) 86)
  have k2 := ((Below.refl w2.heap.size w2).alloc (Nat.le_refl _) (.cells (ka .u32 8 fun _ => 0) 86))
  rw [hnb] at A2 hz2 hkl2 k2
  clear hg
  go_wp2_with (first | (refine wpList_load_at rfl 86 _ rfl ⟨sb, 0, none⟩ rfl _ hld.out ?_) | (rw [zero8]; refine wpList_store_row rfl 86 _ _ rfl nb start.arr rfl rfl 86 _ A2 (size8s _) (by rw [St.arr_eq, ka_size, ka_size]) (one8s _) ?_; have A3 := A2.row start.arr; have b3 := below_row b2 hz2 start.arr; have k3 := below_row k2 (Nat.le_refl nb) start.arr; generalize (w2.alloc (.cells (ka .u32 8 fun _ => 0) 86)).setRow nb start.arr = w3 at *) | (go_at_call 24; refine (HPAD.out _).mono ?_; rintro e w4 ⟨rfl, hb4⟩))
  have A4 := A3.below hb4 A3.lt
  have k4 : Below nb w2 w4 := k3.trans (hb4.mono (Nat.le_of_lt A3.lt))
  clear A2 A3 b2 b3 k2 k3 hb4 hld harr
  go_loopw [5] (fun pv wr => ∃ i : Nat, i ≤ N ∧ pv = .string (p.extract (64 * i) p.size) ∧ Blk wr nb 86 (goS p i).arr ∧ Below nb w2 wr) (fun pv _ => strLen pv)
  case atStart => exact ⟨0, by omega, by rw [Nat.mul_zero, ByteArray.extract_zero_size], A4, k4⟩
  case round =>
    clear A4 k4
    obtain ⟨i, hi, rfl, A4, k4⟩ := hrel
    by_cases hlt : i < N
    · obtain ⟨q, hq⟩ : ∃ q, p.extract (64 * i) p.size = q := ⟨_, rfl⟩
      rw [hq]
      have hqs : q.size = 64 * (N - i) := by rw [← hq, ByteArray.size_extract, HP.out]; omega
      have hq64 : 64 ≤ q.size := by omega
      have hqI : (64 : Int) ≤ (q.size : Int) := by omega
      have hqn : ¬ q.toList = [] := fun h => by
        have h1 : q.data.toList = [] := by rw [← ByteArray.toList_eq]; exact h
        have h2 : q.size = 0 := by rw [← data_length, h1]; rfl
        omega
      have hqe : q.toList.isEmpty = false := by
        cases h : q.toList with
        | nil => exact absurd h hqn
        | cons => rfl
      have HQ := Lib.hid hq
      have HQS := Lib.hid hqs
      clear hq hqs
      go_wp2
      have hld := run_loadVar_row (P := Try.prog) wr.drew nb 86 86 _ (0, 0) _ A4.drew Try.underlying86 rfl (size8s _)
      go_still_tail 4, (by kernel_rfl)
      refine wpStill_load_at rfl 86 _ rfl ⟨nb, 0, none⟩ rfl _ hld ?_
      repeat still_step
      refine wpStill_nil ?_
      change wpList _ _ _ _ _ wr.drew
      clear hld
      have hblk : q.extract 0 64 = p.extract (64 * i) (64 * i + 64) := by
        rw [← HQ.out, ByteArray.extract_extract, HP.out]
        congr 1
        omega
      have hbs : (q.extract 0 64).size = 64 := by rw [ByteArray.size_extract]; omega
      have hnext : goS p (i + 1) = mixS (goS p i) (q.extract 0 64) := by rw [hblk]; rfl
      have hq2 : q.extract 64 q.size = p.extract (64 * (i + 1)) p.size := by
        rw [← HQ.out, ByteArray.extract_extract, ByteArray.size_extract]
        congr 1
        · rw [HP.out]; omega
      generalize q.extract 0 64 = b at *
      have HN := Lib.hid hnext
      have HQ2 := Lib.hid hq2
      have hok := Ok.go p i
      have HMIX := Lib.hid (fun W h => mix_any (goS p i) hok b hbs kb kcap hkc W h)
      have hks : ∀ i, i < 64 → wr.drew.cell? ⟨kb, i, none⟩ = some (.int .u32 ((keyN i : Nat) : Int)) := fun i hi => (World.cell?_of_block (w := w2) (w' := wr.drew) (a := ⟨kb, i, none⟩) (k4.block kb hkl2)).trans (HKK.out i hi)
      have HKS := Lib.hid hks
      clear hnext hq2 hok hbs hblk hks
      go_wp2_with (first | (go_at_call 72; refine (HMIX.out _ HKS.out).mono ?_; rintro e w5 ⟨rfl, hb5⟩; have A5 := A4.drew.below hb5 A4.lt; have k5 := (Mem.below_drew k4).trans (hb5.mono (Nat.le_of_lt A4.lt))) | (refine wpList_store_row rfl 86 _ _ rfl nb _ rfl rfl 86 _ A5 (size8s _) (by rw [St.arr_eq, St.arr_eq, ka_size, ka_size]) (one8s _) ?_; have A6 := A5.row (mixS (goS p i) b).arr; have k6 := below_row k5 (Nat.le_refl nb) (mixS (goS p i) b).arr; generalize w5.setRow nb (mixS (goS p i) b).arr = w6 at *))
      go_roundw
      case rel => exact ⟨i + 1, by omega, by rw [← HQ2.out], by rw [HN.out]; exact A6, k6⟩
      case measure => have h := HQS.out; simp [strLen, ByteArray.size_extract]; omega
    · obtain rfl : i = N := by omega
      have he : p.extract (64 * i) p.size = ⟨#[]⟩ := by
        apply ByteArray.ext
        apply Array.eq_empty_of_size_eq_zero
        have : (p.extract (64 * i) p.size).size = 0 := by rw [ByteArray.size_extract, HP.out]; omega
        exact this
      rw [he]
      clear he
      have bw : Below g w wr := bw2.trans (k4.mono hz2)
      obtain ⟨st, hst⟩ : ∃ st, goS p i = st := ⟨_, rfl⟩
      rw [hst] at HSUM A4
      clear hst
      go_wp2_with (first | (refine wpList_load_row rfl 86 _ rfl nb rfl 86 _ (0, 0) _ A4 Try.underlying86 rfl (size8s _) ?_))
      clear A4 k4
      go_loopw [6, 25] (fun v iv wi => ∃ t : Nat, t ≤ 8 ∧ iv = .int .i64 t ∧ wi.ownsRow g 5 1 v (4 * t) (nums .u8 (ints (outTo st t))) ∧ Below g w wi) (fun _ iv _ => 8 - (intOf iv).toNat)
      case atStart => exact ⟨0, by omega, rfl, World.ownsRow_nil _ _ _ _, bw⟩
      case round =>
        clear bw
        obtain ⟨t, ht, rfl, hO, bw⟩ := hrel
        by_cases hlt : t < 8
        · have hix := index8 (fun i => ((st.at i : Nat) : Int)) t hlt
          rw [← St.arr_eq] at hix
          obtain ⟨x, hx⟩ : ∃ x, st.at t = x := ⟨_, rfl⟩
          rw [hx] at hix
          have HX := Lib.hid hx
          clear hx
          obtain ⟨bi, hbi, hbz, hb1, hb2⟩ := info_parts u8_info
          have hgw : g ≤ wr.heap.size := by have h1 := bw.size; rw [HG.out] at h1; exact h1
          go_wp2_with (at_builtin; refine wpList_append_own _ rfl _ _ _ rfl g 5 bi (.int .u8 0) 1 1 Try.underlying37 hbi hbz hb1 hb2 rfl (by decide) _ (4 * t) _ (by rfl) (hO.alloc _) ⟨wr.heap.size, 0, none⟩ 4 4 [.int .u8 ((x : Int) / 16777216 % 256), .int .u8 ((x : Int) / 65536 % 256), .int .u8 ((x : Int) / 256 % 256), .int .u8 ((x : Int) % 256)] (by rfl) (by rfl) (World.news_of_block (cs := #[.int .u8 ((x : Int) / 16777216 % 256), .int .u8 ((x : Int) / 65536 % 256), .int .u8 ((x : Int) / 256 % 256), .int .u8 ((x : Int) % 256)]) (t := 5) (fr := (0, 0)) (heap_alloc_new wr _)) (by simp [Value.oneCell']) (by simp only [maxLen]; omega) (by omega) (by simp; omega) ?_; intro v5 w5 O5 G5 _)
          go_roundw
          case rel =>
            refine ⟨t + 1, by omega, by go_num, ?_, ?_⟩
            · have e : nums .u8 (ints (outTo st (t + 1))) = nums .u8 (ints (outTo st t)) ++ [.int .u8 ((x : Int) / 16777216 % 256), .int .u8 ((x : Int) / 65536 % 256), .int .u8 ((x : Int) / 256 % 256), .int .u8 ((x : Int) % 256)] := by
                rw [outTo_succ st t hlt, HX.out, ints_append, nums_append]
                rfl
              rw [e]
              exact O5
            · exact below_alloc_grown bw hgw G5 (fun k hk => (hO.lt k hk).1)
          case measure => simp [intOf]; omega
        · obtain rfl : t = 8 := by omega
          rw [show ((8 : Nat) : Int) = 8 from rfl]
          have hcv := own_string (P := Try.prog) (src := 37) (dst := 9) Try.underlying37 Try.underlying5 Try.underlying9 hO
          go_wp2
          go_ret
          refine ⟨?_, bw⟩
          rw [HSUM.out]
          have e : outTo st 8 = outL st := rfl
          show Ending.returned (.string (strOfNums (ints (outTo st 8)))) = _
          rw [e, ofNats_eq]
end Go.Proofs.Ytolbhliepkcihaa.Sha
