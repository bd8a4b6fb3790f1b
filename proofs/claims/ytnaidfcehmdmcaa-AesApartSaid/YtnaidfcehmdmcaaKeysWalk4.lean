/- aes.Keys, a key of 16 bytes: the walk. -/
import Derived.Test.YtnaidfcehmdmcaaKeyLaw
import Derived.StillTailTactics
import Derived.LoopTactic
import Derived.RegionTactic
import Derived.Lib.Hide
import Derived.Outline
import Derived.Deep.RegionHeld3
import Derived.Deep.AppendLies
namespace Go.Proofs.Ytnaidfcehmdmcaa.Key
open Go.RowKit Go.Proofs.Ytnaidfcehmdmcaa.FC Go.Proofs.Ytnaidfcehmdmcaa.Mem Go.Proofs.Ytnaidfcehmdmcaa.AS Go.Proofs.Ytnaidfcehmdmcaa.Row
open Go.Proofs.YtnaidfcehmdmcaaW.PrintWords Go.Proofs.YtnaidfcehmdmcaaW.PrintLast Go.Proofs.YtnaidfcehmdmcaaW.PrintMore
set_option maxRecDepth 100000
set_option maxHeartbeats 4000000
theorem keys4 (s : ByteArray) (h16 : s.size = 16) (F : Nat → Int) (hF : KeyF 4 s F) (hB : ∀ j, By (F j)) (w : World) :
    Calls Try.prog 31 #[.string s] w fun e w' => ∃ v, e = .returned (.tuple #[v, .int .i64 0]) ∧ KeysRow w.heap.size v 11 F w' ∧ Below w.heap.size w w' := by
  have hcv := Lib.run_convert_string_bytes (P := Try.prog) w 9 29 5 s Try.underlying9 Try.underlying29 Try.underlying5
  rw [h16] at hcv
  have R0 := bytes_rowB w s (by rw [h16]; decide)
  rw [h16] at R0
  have R1 : RowB (Lib.bytesWorld w 5 s) w.heap.size w.heap.size (grownCap w 16 0 5) 16 F := R0.congr fun j hj => (hF.first j hj).symm
  have b1 := below_bytes w s
  have z1 := Lib.bytesWorld_size w 5 s
  have hs1 : ((s.size : Int) != 16) = false := by rw [h16]; rfl
  have hs2 : ((s.size : Int) != 32) = true := by rw [h16]; rfl
  clear R0
  go_enter Try.func31, Try.ntmps31
  generalize hg : w.heap.size = g0 at *
  generalize hc0 : grownCap w 16 0 5 = cap0 at *
  generalize hw1 : Lib.bytesWorld w 5 s = w1 at *
  go_wp2
  go_loopw [5, 6] (fun v i wr => ∃ n g cap, 4 ≤ n ∧ n ≤ 44 ∧ i = .int .i64 (n : Nat) ∧ v = .slice (some ⟨g, 0, none⟩) (4 * n) cap ∧ RowB wr g0 g cap (4 * n) F ∧ Below g0 w wr) (fun _ i _ => 44 - (intOf i).toNat)
  case atStart => exact ⟨4, g0, cap0, by omega, by omega, rfl, rfl, R1, b1⟩
  case round =>
    clear R1 b1 z1 hcv hw1 hc0
    obtain ⟨n, g, cap, hn4, hn44, rfl, rfl, R1, b1⟩ := hrel
    by_cases hlt : n < 44
    · obtain ⟨c, hc⟩ : ∃ c, 4 * n = c := ⟨_, rfl⟩
      obtain ⟨p, hp⟩ : ∃ p, c = p + 4 := ⟨c - 4, by omega⟩
      have ec : 4 * (n : Int) = (c : Int) := by omega
      have ep : (c : Int) - 4 = (p : Int) := by omega
      rw [hc] at R1 ⊢
      have hle := R1.le
      have hsl := slice29 g p c cap hp hle c
      have har := array65 (some ⟨g, p, none⟩) (cap - p)
      have hld := Lib.hid (load65 (fun i => F (p + i)) g p wr (fun i hi => R1.cell _ (by omega)))
      have hgl := R1.lt
      have hgb := R1.base
      have hgw : g0 ≤ wr.heap.size := by omega
      have HC := Lib.hid hc
      have HP := Lib.hid hp
      have e0 : Hid (4 * n - 4 = p) := Lib.hid (by omega)
      clear hc hp
      have hgq : g ≠ wr.heap.size := Nat.ne_of_lt hgl
      by_cases hm : n % 4 = 0
      · have m4 : ((n : Int) % 4 == 0) = true := by rw [beq_iff_eq]; omega
        obtain ⟨q, hq⟩ : ∃ q, n / 4 - 1 = q := ⟨_, rfl⟩
        have wq : IntKind.i64.wrap (IntKind.i64.wrap ((n : Int) / 4) - 1) = (q : Int) := by rw [IntWalk.i64_in ((n : Int) / 4) (by omega), IntWalk.i64_in _ (by omega)]; omega
        have q63 : q < 2 ^ 63 := by omega
        have WQ := Lib.hid wq
        clear wq
        have HM := Lib.hid hm
        have HQ := Lib.hid hq
        clear hm hq
        go_wp2_with (first | (refine wpList_load_at rfl 65 _ rfl ⟨g, p, none⟩ rfl _ hld.out ?_) | (refine wpList_store_row rfl 65 _ _ rfl wr.heap.size _ rfl rfl 65 _ (Blk.new wr 65 _) (size65 _) (by rw [u8a_size]; rfl) (u8a_one _ _) ?_; have A1 := (Blk.new wr 65 #[Value.int .u8 0, .int .u8 0, .int .u8 0, .int .u8 0]).row (u8a 4 fun i => F (p + i)); have R2 := (R1.alloc (.cells #[Value.int .u8 0, .int .u8 0, .int .u8 0, .int .u8 0] 65)).row_far (Nat.ne_of_lt hgl) (u8a 4 fun i => F (p + i)); have b2 := below_row (b1.alloc hgw (.cells #[Value.int .u8 0, .int .u8 0, .int .u8 0, .int .u8 0] 65)) hgw (u8a 4 fun i => F (p + i)); generalize (wr.alloc (.cells #[Value.int .u8 0, .int .u8 0, .int .u8 0, .int .u8 0] 65)).setRow wr.heap.size (u8a 4 fun i => F (p + i)) = w2 at *; have d0 := A1.cell 0; have d1 := A1.cell 1; have d2 := A1.cell 2; have d3 := A1.cell 3; rw [u8a_at _ (by decide)] at d0 d1 d2 d3))
        go_still_tail 19, (by kernel_rfl)
        still_call (box_still _ _ (hB _))
        repeat still_step
        have wq := WQ.out
        still_call (two_still q q63 _)
        repeat still_step
        still_call (box_still _ _ (hB _))
        repeat still_step
        still_call (box_still _ _ (hB _))
        repeat still_step
        still_call (box_still _ _ (hB _))
        repeat still_step
        refine wpStill_nil ?_
        change wpList _ _ _ _ _ w2.drew
        have HV : Hid (#[Value.int .u8 (bits .xor .u8 (boxI (F (p + 1))) (twoI q)), .int .u8 (boxI (F (p + 2))), .int .u8 (boxI (F (p + 3))), .int .u8 (boxI (F p))] = u8a 4 (wd 4 F n)) := Lib.hid (by
          show _ = #[Value.int .u8 (wd 4 F n 0), .int .u8 (wd 4 F n 1), .int .u8 (wd 4 F n 2), .int .u8 (wd 4 F n 3)]
          unfold wd
          rw [if_pos HM.out, if_pos HM.out, if_pos HM.out, if_pos HM.out, e0.out, HQ.out]
          rfl)
        go_wp2_with (first | (refine wpList_store_row rfl 65 _ _ rfl wr.heap.size (u8a 4 (wd 4 F n)) rfl (congrArg Value.agg HV.out) 65 _ A1.drew (size65 _) (by rw [u8a_size, u8a_size]) (u8a_one _ _) ?_; have A2 := A1.drew.row (u8a 4 (wd 4 F n)); have R3 := R2.drew.row_far hgq (u8a 4 (wd 4 F n)); have b3 := below_row (below_drew b2) hgw (u8a 4 (wd 4 F n))))
        clear HV
        generalize w2.drew.setRow wr.heap.size (u8a 4 (wd 4 F n)) = w3 at *
        clear hsl har hld R1 b1 ep
        try clear R2 b2 A1 d0 d1 d2 d3
        generalize wr.heap.size = gb at *
        go_loopw [5, 85] (fun v r wi => ∃ k g' cap', k ≤ 4 ∧ r = .int .i64 (k : Nat) ∧ v = .slice (some ⟨g', 0, none⟩) (c + k) cap' ∧ RowB wi g0 g' cap' (c + k) F ∧ Blk wi gb 65 (u8a 4 (wd 4 F n)) ∧ Below g0 w wi ∧ g' ≠ gb) (fun _ r _ => 4 - (intOf r).toNat)
        case atStart => exact ⟨0, g, cap, by omega, rfl, rfl, R3, A2, b3, hgq⟩
        case round =>
          clear R3 A2 b3 hgq
          obtain ⟨k, g', cap', hk4, rfl, rfl, R3, A2, b3, hgq⟩ := hrel
          by_cases hlk : k < 4
          · obtain ⟨t, ht⟩ : ∃ t, c + k = t + 16 := ⟨c + k - 16, by have := HC.out; omega⟩
            have et : 4 * ((n : Int) - 4) + (k : Int) = (t : Int) := by have := HC.out; omega
            have nn4 : (4 : Int) ≤ (n : Int) := by omega
            have wr1 : IntKind.i64.wrap ((n : Int) - 4) = (n : Int) - 4 := IntWalk.i64_in _ (by omega)
            have wr2 : IntKind.i64.wrap (4 * ((n : Int) - 4)) = 4 * ((n : Int) - 4) := IntWalk.i64_in _ (by omega)
            have wr3 : IntKind.i64.wrap (t : Int) = (t : Int) := IntWalk.i64_in _ (by omega)
            have t0 : (0 : Int) ≤ (t : Int) := Int.natCast_nonneg _
            have tlt : (t : Int) < (c : Int) + (k : Int) := by omega
            have klt : (k : Int) < 4 := by omega
            have cl1 := R3.cell t (by omega)
            have cl2 := A2.cell k
            rw [u8a_at _ hlk] at cl2
            have FX : Hid (bits .xor .u8 (F t) (wd 4 F n k) = F (c + k)) := Lib.hid (by
              have h1 := hF.next n k hn4 (by omega) hlk
              have h2 : 4 * n + k = c + k := by have := HC.out; omega
              rw [h2, show c + k - 4 * 4 = t by omega] at h1
              exact h1.symm)
            have hsz : g0 ≤ wr.heap.size := Nat.le_trans R3.base (Nat.le_of_lt R3.lt)
            have hgw2 : gb < wr.heap.size := A2.lt
            have hnb : (⟨gb, k, none⟩ : Addr).block ≠ g' := Ne.symm hgq
            have HT := Lib.hid ht
            clear ht
            go_wp2
            go_region_held3 (fun w' => w'.cell? ⟨g', t, none⟩ = some (.int .u8 (F t)) ∧ w'.cell? ⟨gb, k, none⟩ = some (.int .u8 (wd 4 F n k)))
              (first | go_keep | exact ⟨C5 t (by omega), (World.cell?_of_block (a := ⟨gb, k, none⟩) (G5.block gb (by simp; omega) (by simp; omega))).trans (by first | assumption | (go_simp; done))⟩)
              ((refine step_append_rowB (by rfl) _ _ (by rfl) ((R3.alloc _).drew) (by rfl) (by simp; omega) ⟨wr.heap.size, 0, none⟩ 1 (by rfl) (by rw [← FX.out]; exact (Blk.drew (Blk.new wr 5 #[.int .u8 (bits .xor .u8 (F t) (wd 4 F n k))])).cell 0) (by omega) ?_; intro g5 cap5 w5 R5 G5 D5 C5))
            go_wp2
            go_roundw
            case rel =>
              refine ⟨k + 1, g5, cap5, by omega, by go_num, rfl, R5, ?_, ?_, ?_⟩
              · exact (G5.block gb (by simp; omega) (by simp; omega)).trans (A2.alloc _).drew
              · exact below_grown (below_drew (b3.alloc hsz _)) (by simp; omega) G5 R3.base
              · rcases D5 with rfl | h5
                · exact hgq
                · simp at h5; omega
            case measure => simp [intOf]; omega
          · obtain rfl : k = 4 := by omega
            go_wp2
            go_roundw
            case rel => exact ⟨n + 1, g', cap', by omega, by omega, by go_num, by have := HC.out; rw [show 4 * (n + 1) = c + 4 by omega], by have := HC.out; rw [show 4 * (n + 1) = c + 4 by omega]; exact R3, b3⟩
            case measure => simp [intOf]; omega
      · have m4 : ((n : Int) % 4 == 0) = false := by rw [beq_eq_false_iff_ne]; omega
        have HA : Hid ((u8a 4 fun i => F (p + i)) = u8a 4 (wd 4 F n)) := Lib.hid (u8a_ext fun i _ => by
          unfold wd; rw [if_neg hm, if_neg (by omega), e0.out])
        clear hm
        go_wp2_with (first | (refine wpList_load_at rfl 65 _ rfl ⟨g, p, none⟩ rfl _ hld.out ?_) | (refine wpList_store_row rfl 65 _ _ rfl wr.heap.size _ rfl rfl 65 _ (Blk.new wr 65 _) (size65 _) (by rw [u8a_size]; rfl) (u8a_one _ _) ?_; have A1 := (Blk.new wr 65 #[Value.int .u8 0, .int .u8 0, .int .u8 0, .int .u8 0]).row (u8a 4 fun i => F (p + i)); have R2 := (R1.alloc (.cells #[Value.int .u8 0, .int .u8 0, .int .u8 0, .int .u8 0] 65)).row_far (Nat.ne_of_lt hgl) (u8a 4 fun i => F (p + i)); have b2 := below_row (b1.alloc hgw (.cells #[Value.int .u8 0, .int .u8 0, .int .u8 0, .int .u8 0] 65)) hgw (u8a 4 fun i => F (p + i)); generalize (wr.alloc (.cells #[Value.int .u8 0, .int .u8 0, .int .u8 0, .int .u8 0] 65)).setRow wr.heap.size (u8a 4 fun i => F (p + i)) = w2 at *; have d0 := A1.cell 0; have d1 := A1.cell 1; have d2 := A1.cell 2; have d3 := A1.cell 3; rw [u8a_at _ (by decide)] at d0 d1 d2 d3))
        have A2 := A1
        rw [HA.out] at A2
        have R3 := R2
        have b3 := b2
        clear HA
        clear hsl har hld R1 b1 ep
        try clear R2 b2 A1 d0 d1 d2 d3
        generalize wr.heap.size = gb at *
        go_loopw [5, 85] (fun v r wi => ∃ k g' cap', k ≤ 4 ∧ r = .int .i64 (k : Nat) ∧ v = .slice (some ⟨g', 0, none⟩) (c + k) cap' ∧ RowB wi g0 g' cap' (c + k) F ∧ Blk wi gb 65 (u8a 4 (wd 4 F n)) ∧ Below g0 w wi ∧ g' ≠ gb) (fun _ r _ => 4 - (intOf r).toNat)
        case atStart => exact ⟨0, g, cap, by omega, rfl, rfl, R3, A2, b3, hgq⟩
        case round =>
          clear R3 A2 b3 hgq
          obtain ⟨k, g', cap', hk4, rfl, rfl, R3, A2, b3, hgq⟩ := hrel
          by_cases hlk : k < 4
          · obtain ⟨t, ht⟩ : ∃ t, c + k = t + 16 := ⟨c + k - 16, by have := HC.out; omega⟩
            have et : 4 * ((n : Int) - 4) + (k : Int) = (t : Int) := by have := HC.out; omega
            have nn4 : (4 : Int) ≤ (n : Int) := by omega
            have wr1 : IntKind.i64.wrap ((n : Int) - 4) = (n : Int) - 4 := IntWalk.i64_in _ (by omega)
            have wr2 : IntKind.i64.wrap (4 * ((n : Int) - 4)) = 4 * ((n : Int) - 4) := IntWalk.i64_in _ (by omega)
            have wr3 : IntKind.i64.wrap (t : Int) = (t : Int) := IntWalk.i64_in _ (by omega)
            have t0 : (0 : Int) ≤ (t : Int) := Int.natCast_nonneg _
            have tlt : (t : Int) < (c : Int) + (k : Int) := by omega
            have klt : (k : Int) < 4 := by omega
            have cl1 := R3.cell t (by omega)
            have cl2 := A2.cell k
            rw [u8a_at _ hlk] at cl2
            have FX : Hid (bits .xor .u8 (F t) (wd 4 F n k) = F (c + k)) := Lib.hid (by
              have h1 := hF.next n k hn4 (by omega) hlk
              have h2 : 4 * n + k = c + k := by have := HC.out; omega
              rw [h2, show c + k - 4 * 4 = t by omega] at h1
              exact h1.symm)
            have hsz : g0 ≤ wr.heap.size := Nat.le_trans R3.base (Nat.le_of_lt R3.lt)
            have hgw2 : gb < wr.heap.size := A2.lt
            have hnb : (⟨gb, k, none⟩ : Addr).block ≠ g' := Ne.symm hgq
            have HT := Lib.hid ht
            clear ht
            go_wp2
            go_region_held3 (fun w' => w'.cell? ⟨g', t, none⟩ = some (.int .u8 (F t)) ∧ w'.cell? ⟨gb, k, none⟩ = some (.int .u8 (wd 4 F n k)))
              (first | go_keep | exact ⟨C5 t (by omega), (World.cell?_of_block (a := ⟨gb, k, none⟩) (G5.block gb (by simp; omega) (by simp; omega))).trans (by first | assumption | (go_simp; done))⟩)
              ((refine step_append_rowB (by rfl) _ _ (by rfl) ((R3.alloc _).drew) (by rfl) (by simp; omega) ⟨wr.heap.size, 0, none⟩ 1 (by rfl) (by rw [← FX.out]; exact (Blk.drew (Blk.new wr 5 #[.int .u8 (bits .xor .u8 (F t) (wd 4 F n k))])).cell 0) (by omega) ?_; intro g5 cap5 w5 R5 G5 D5 C5))
            go_wp2
            go_roundw
            case rel =>
              refine ⟨k + 1, g5, cap5, by omega, by go_num, rfl, R5, ?_, ?_, ?_⟩
              · exact (G5.block gb (by simp; omega) (by simp; omega)).trans (A2.alloc _).drew
              · exact below_grown (below_drew (b3.alloc hsz _)) (by simp; omega) G5 R3.base
              · rcases D5 with rfl | h5
                · exact hgq
                · simp at h5; omega
            case measure => simp [intOf]; omega
          · obtain rfl : k = 4 := by omega
            go_wp2
            go_roundw
            case rel => exact ⟨n + 1, g', cap', by omega, by omega, by go_num, by have := HC.out; rw [show 4 * (n + 1) = c + 4 by omega], by have := HC.out; rw [show 4 * (n + 1) = c + 4 by omega]; exact R3, b3⟩
            case measure => simp [intOf]; omega
    · obtain rfl : n = 44 := by omega
      obtain ⟨L, hL⟩ : ∃ L, 4 * 44 = L := ⟨_, rfl⟩
      rw [hL] at R1 ⊢
      have HL := Lib.hid hL
      clear hL
      have hgl := R1.lt
      obtain ⟨si, sz, hsi, hsz0, hsz1, hsz2, hsz3⟩ := str_info
      have u36 : Try.prog.underlying 36 = some (.slice 9) := by kernel_rfl
      have hle := R1.le
      rw [show ((44 : Nat) : Int) = 44 from rfl]
      go_wp2
      go_loopw [10, 11] (fun v i wi => ∃ m : Nat, m ≤ 11 ∧ i = .int .i64 (16 * (m : Int)) ∧ wi.ownsRow g0 9 1 v m ((List.range m).map fun i => .string (keyT F i)) ∧ RowB wi g0 g cap L F ∧ Below g0 w wi ∧ v.ownBlock ≠ some g) (fun _ i _ => L - (intOf i).toNat)
      case atStart => exact ⟨0, by omega, rfl, World.ownsRow_nil _ _ _ _, R1, b1, by simp [Value.ownBlock]⟩
      case round =>
        clear R1 b1 hgl
        obtain ⟨m, hm, rfl, hO, R1, b1, hv⟩ := hrel
        by_cases hlm : m < 11
        · obtain ⟨p, hp⟩ : ∃ p, 16 * m = p := ⟨_, rfl⟩
          have ep : 16 * (m : Int) = (p : Int) := by omega
          have hL := HL.out
          have hpl : (p : Int) < (L : Int) := by omega
          have hsl := slice29b g p cap (by omega) L
          have hcv := conv29 (fun i => F (p + i)) g p (cap - p) wr (fun i hi => R1.cell _ (by omega))
          have hgl := R1.lt
          have hbw : g0 ≤ wr.heap.size := Nat.le_trans R1.base (Nat.le_of_lt hgl)
          have HP := Lib.hid hp
          clear hp hL
          go_wp2_with (at_builtin; refine wpList_append_own_at _ rfl _ _ _ rfl g0 9 si sz 1 16 u36 hsi hsz0 hsz1 hsz2 hsz3 (by decide) _ m _ (by rfl) (hO.alloc _) ⟨wr.heap.size, 0, none⟩ 1 1 [.string (txt fun i => F (p + i))] (by rfl) (by rfl) (World.news_of_block (cs := #[.string (txt fun i => F (p + i))]) (t := 9) (fr := (0, 0)) (heap_alloc_new wr _)) (by simp [Value.oneCell']) (by simp only [maxLen]; omega) (by omega) (by simp; omega) ?_; intro v5 w5 O5 G5 N5 D5)
          go_roundw
          case rel =>
            refine ⟨m + 1, by omega, by have := HP.out; first | go_num | (congr 1; omega), ?_, ?_, ?_, ?_⟩
            · rw [List.range_succ, List.map_append]
              have e : keyT F m = txt fun i => F (p + i) := by unfold keyT; rw [HP.out]
              simp only [List.map_cons, List.map_nil, e]
              exact O5
            · exact (R1.alloc _).grown G5 (Ne.symm hv)
            · refine ⟨G5.os.trans b1.os, G5.tape.trans b1.tape, G5.output.trans b1.output, Nat.le_trans b1.size (Nat.le_trans (by simp) G5.size), fun q hq => (G5.block q (by simp; omega) ?_).trans ((Below.heap_alloc wr _ q (by omega)).trans (b1.block q hq))⟩
              intro hh
              have := (hO.lt q hh.symm).1
              omega
            · rcases D5 with h5 | h5
              · rw [h5]; exact hv
              · rw [h5]; simp; omega
          case measure => have := HP.out; simp [intOf]; omega
        · obtain rfl : m = 11 := by omega
          have hL := HL.out
          subst hL
          go_wp2
          go_ret2
          exact ⟨_, rfl, hO, b1⟩
end Go.Proofs.Ytnaidfcehmdmcaa.Key
