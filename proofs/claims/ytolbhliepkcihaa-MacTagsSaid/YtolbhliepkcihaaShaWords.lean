/- SHA-256's words of a block: the walk. -/
import Derived.Test.YtolbhliepkcihaaShaRound
import Derived.StillTailTactics
import Derived.LoopTactic
import Derived.Lib.Hide
namespace Go.Proofs.Ytolbhliepkcihaa.Sha
open Go.RowKit Go.Proofs.Ytolbhliepkcihaa.QR Go.Proofs.Ytolbhliepkcihaa.Mem Go.Proofs.YtolbhliepkcihaaW.PrintWords Go.Proofs.YtolbhliepkcihaaW.PrintLast Go.Proofs.YtolbhliepkcihaaW.PrintMore
theorem size64w (f : Nat → Int) : (Try.prog.info? 127).map (·.size) = some (ka .u32 64 f).size := by rw [ka_size]; kernel_rfl
theorem orW (x0 x1 x2 x3 : Nat) (h0 : x0 < 256) (h1 : x1 < 256) (h2 : x2 < 256) (h3 : x3 < 256) :
    bits .or .u32 (bits .or .u32 (bits .or .u32 ((x0 : Int) % 4294967296 * 16777216 % 4294967296) ((x1 : Int) % 4294967296 * 65536 % 4294967296)) ((x2 : Int) % 4294967296 * 256 % 4294967296)) ((x3 : Int) % 4294967296) = ((x0 * 16777216 + x1 * 65536 + x2 * 256 + x3 : Nat) : Int) := by
  have e0 : (x0 : Int) % 4294967296 * 16777216 % 4294967296 = ((x0 * 16777216 : Nat) : Int) := by omega
  have e1 : (x1 : Int) % 4294967296 * 65536 % 4294967296 = ((x1 * 65536 : Nat) : Int) := by omega
  have e2 : (x2 : Int) % 4294967296 * 256 % 4294967296 = ((x2 * 256 : Nat) : Int) := by omega
  have e3 : (x3 : Int) % 4294967296 = ((x3 : Nat) : Int) := by omega
  rw [e0, e1, e2, e3, u32_or_nat _ _ (by omega) (by omega), nat_join24 _ _ (by omega) (by omega), u32_or_nat _ _ (by omega) (by omega), nat_join16 _ _ (by omega) (by omega), u32_or_nat _ _ (by omega) (by omega), nat_join8 _ _ (by omega) (by omega)]
theorem bn_at (b : ByteArray) (i : Nat) (h : i < b.size) : (b[i]'h).toNat = bn b i := by unfold bn; rw [dif_pos h]
theorem nextV (a b c e : Nat) (ha : a < 4294967296) (hb : b < 4294967296) :
    (bits .xor .u32 (bits .xor .u32 ((rr b 17 : Nat) : Int) ((rr b 19 : Nat) : Int)) ((b : Int) / 1024) + (c : Int) + bits .xor .u32 (bits .xor .u32 ((rr a 7 : Nat) : Int) ((rr a 18 : Nat) : Int)) ((a : Int) / 8) + (e : Int)) % 4294967296 = (((sig1 b + c + sig0 a + e) % M : Nat) : Int) := by
  have q1 : ((b : Int) / 1024) = ((b / 1024 : Nat) : Int) := by omega
  have q2 : ((a : Int) / 8) = ((a / 8 : Nat) : Int) := by omega
  rw [q1, q2, u32_xor_nat _ _ (rr_lt hb) (rr_lt hb), u32_xor_nat _ _ (xor_lt (rr_lt hb) (rr_lt hb)) (div_lt hb), u32_xor_nat _ _ (rr_lt ha) (rr_lt ha), u32_xor_nat _ _ (xor_lt (rr_lt ha) (rr_lt ha)) (div_lt ha)]
  have hx : ((rr b 17 ^^^ rr b 19) ^^^ b / 1024) = sig1 b := rfl
  have hy : ((rr a 7 ^^^ rr a 18) ^^^ a / 8) = sig0 a := rfl
  rw [hx, hy]
  unfold M
  omega
/-- the words ahead of number t, the others 0 -/
def wcut (s : ByteArray) (t : Nat) (i : Nat) : Int := if i < t then ((wordN s i : Nat) : Int) else 0
theorem wcut_set (s : ByteArray) (t : Nat) (ht : t < 64) : (ka .u32 64 (wcut s t)).setIfInBounds t (.int .u32 ((wordN s t : Nat) : Int)) = ka .u32 64 (wcut s (t + 1)) := by
  rw [ka_set _ _ ht]
  refine ka_ext fun i _ => ?_
  unfold wcut
  by_cases h : i = t
  · subst h; rw [if_pos rfl, if_pos (by omega)]
  · rw [if_neg h]
    by_cases h2 : i < t
    · rw [if_pos h2, if_pos (by omega)]
    · rw [if_neg h2, if_neg (by omega)]
theorem zero64 : #[Value.int .u32 0, .int .u32 0, .int .u32 0, .int .u32 0, .int .u32 0, .int .u32 0, .int .u32 0, .int .u32 0, .int .u32 0, .int .u32 0, .int .u32 0, .int .u32 0, .int .u32 0, .int .u32 0, .int .u32 0, .int .u32 0, .int .u32 0, .int .u32 0, .int .u32 0, .int .u32 0, .int .u32 0, .int .u32 0, .int .u32 0, .int .u32 0, .int .u32 0, .int .u32 0, .int .u32 0, .int .u32 0, .int .u32 0, .int .u32 0, .int .u32 0, .int .u32 0, .int .u32 0, .int .u32 0, .int .u32 0, .int .u32 0, .int .u32 0, .int .u32 0, .int .u32 0, .int .u32 0, .int .u32 0, .int .u32 0, .int .u32 0, .int .u32 0, .int .u32 0, .int .u32 0, .int .u32 0, .int .u32 0, .int .u32 0, .int .u32 0, .int .u32 0, .int .u32 0, .int .u32 0, .int .u32 0, .int .u32 0, .int .u32 0, .int .u32 0, .int .u32 0, .int .u32 0, .int .u32 0, .int .u32 0, .int .u32 0, .int .u32 0, .int .u32 0] = ka .u32 64 fun _ => 0 := rfl
set_option maxRecDepth 100000 in
set_option maxHeartbeats 4000000 in
theorem words_any (s : ByteArray) (hs : s.size = 64) (w : World) :
    Calls Try.prog 103 #[.string s] w fun e w' => e = .returned (.agg (ka .u32 64 fun t => ((wordN s t : Nat) : Int))) ∧ Below w.heap.size w w' := by
  go_enter Try.func103, Try.ntmps103
  go_wp2
  rw [zero64]
  have H2 := (Blk.new w 127 (ka .u32 64 fun _ => 0)).alloc (.cells (ka .u32 64 fun _ => 0) 127)
  have H1 := Blk.new (w.alloc (.cells (ka .u32 64 fun _ => 0) 127)) 127 (ka .u32 64 fun _ => 0)
  have B0 : Below w.heap.size w ((w.alloc (.cells (ka .u32 64 fun _ => 0) 127)).alloc (.cells (ka .u32 64 fun _ => 0) 127)) := ((Below.refl _ _).alloc (Nat.le_refl _) _).alloc (by simp) _
  rw [World.size_alloc] at H1
  generalize hw2 : (w.alloc (.cells (ka .u32 64 fun _ => 0) 127)).alloc (.cells (ka .u32 64 fun _ => 0) 127) = w2 at *
  clear hw2
  generalize hg : w.heap.size = g at *
  have HG := Lib.hid hg
  clear hg
  go_loopw [8] (fun i wr => ∃ t : Nat, t ≤ 64 ∧ i = .int .i64 t ∧ Blk wr (g + 1) 127 (ka .u32 64 (wcut s t)) ∧ Blk wr g 127 (ka .u32 64 fun _ => 0) ∧ Below g w wr) (fun i _ => 64 - (intOf i).toNat)
  case atStart => exact ⟨0, by omega, rfl, H1, H2, B0⟩
  case round =>
    clear H1 H2 B0
    obtain ⟨t, ht, rfl, H1, H2, b1⟩ := hrel
    have hgl := H2.lt
    have hgl1 := H1.lt
    by_cases hlt : t < 64
    · by_cases h16 : t < 16
      · go_wp2
        obtain ⟨b, hb⟩ : ∃ b, s.extract (4 * t) 64 = b := ⟨_, rfl⟩
        have hbs : b.size = 64 - 4 * t := by rw [← hb, ByteArray.size_extract, hs, Nat.min_self]
        rw [hb]
        have l0 : 0 < b.size := by omega
        have l1 : 1 < b.size := by omega
        have l2 : 2 < b.size := by omega
        have l3 : 3 < b.size := by omega
        have k0 : (0 : Int) < (b.size : Int) := by omega
        have k1 : (1 : Int) < (b.size : Int) := by omega
        have k2 : (2 : Int) < (b.size : Int) := by omega
        have k3 : (3 : Int) < (b.size : Int) := by omega
        have hbt : ∀ j, j < 4 → bn b j = bn s (4 * t + j) := fun j hj => by
          unfold bn
          rw [dif_pos (by omega), dif_pos (by omega)]
          simp [← hb, ByteArray.getElem_extract]
        have HB := Lib.hid hb
        have HS := Lib.hid hbs
        have HT := Lib.hid hbt
        clear hb hbs hbt
        have i0 : (0 : Int) ≤ (t : Int) := by omega
        have i1 : (t : Int) < 64 := by omega
        have ct := H1.cell t
        rw [ka_at _ hlt] at ct
        have ft := H1.frozen t
        go_region
        go_wp2
        go_roundw
        case rel =>
          refine ⟨t + 1, by omega, by go_num, ?_, H2.far (p := ⟨g + 1, t, none⟩) (by simp) _, (Mem.below_drew b1).setCell (p := ⟨g + 1, t, none⟩) (by simp) _⟩
          have H3 := H1.drew.set_ t (.int .u32 ((wordN s t : Nat) : Int))
          rw [wcut_set s t hlt] at H3
          have hw : wordN s t = word s t := wordN_low s t h16
          rw [orW _ _ _ _ (UInt8.toNat_lt _) (UInt8.toNat_lt _) (UInt8.toNat_lt _) (UInt8.toNat_lt _), bn_at b 0 l0, bn_at b 1 l1, bn_at b 2 l2, bn_at b 3 l3, HT.out 0 (by decide), HT.out 1 (by decide), HT.out 2 (by decide), HT.out 3 (by decide)]
          rw [hw] at H3
          exact H3
        case measure => simp [intOf]; omega
      · go_wp2
        obtain ⟨p1, hp1⟩ : ∃ p1, t = p1 + 15 := ⟨t - 15, by omega⟩
        obtain ⟨p2, hp2⟩ : ∃ p2, t = p2 + 2 := ⟨t - 2, by omega⟩
        obtain ⟨p7, hp7⟩ : ∃ p7, t = p7 + 7 := ⟨t - 7, by omega⟩
        obtain ⟨p16, hp16⟩ : ∃ p16, t = p16 + 16 := ⟨t - 16, by omega⟩
        have e1 : (t : Int) - 15 = (p1 : Int) := by omega
        have e2 : (t : Int) - 2 = (p2 : Int) := by omega
        have e7 : (t : Int) - 7 = (p7 : Int) := by omega
        have e16 : (t : Int) - 16 = (p16 : Int) := by omega
        have c1 : wr.cell? ⟨g + 1, p1, none⟩ = some (.int .u32 ((wordN s p1 : Nat) : Int)) := by rw [H1.cell, ka_at _ (by omega)]; unfold wcut; rw [if_pos (by omega)]
        have c2 : wr.cell? ⟨g + 1, p2, none⟩ = some (.int .u32 ((wordN s p2 : Nat) : Int)) := by rw [H1.cell, ka_at _ (by omega)]; unfold wcut; rw [if_pos (by omega)]
        have c7 : wr.cell? ⟨g + 1, p7, none⟩ = some (.int .u32 ((wordN s p7 : Nat) : Int)) := by rw [H1.cell, ka_at _ (by omega)]; unfold wcut; rw [if_pos (by omega)]
        have c16 : wr.cell? ⟨g + 1, p16, none⟩ = some (.int .u32 ((wordN s p16 : Nat) : Int)) := by rw [H1.cell, ka_at _ (by omega)]; unfold wcut; rw [if_pos (by omega)]
        have HP1 := Lib.hid hp1
        have HP2 := Lib.hid hp2
        have HP7 := Lib.hid hp7
        have HP16 := Lib.hid hp16
        clear hp1 hp2 hp7 hp16
        have j1 : (p1 : Int) < 64 := by omega
        have j2 : (p2 : Int) < 64 := by omega
        have j7 : (p7 : Int) < 64 := by omega
        have j16 : (p16 : Int) < 64 := by omega
        have w1 : wordN s p1 < 4294967296 := wordN_lt s p1
        have w2 : wordN s p2 < 4294967296 := wordN_lt s p2
        go_quiet (fail)
        go_wp2
        have q7 : IntKind.i64.wrap (p7 : Int) = (p7 : Int) := IntWalk.i64_in _ (by omega)
        have q16 : IntKind.i64.wrap (p16 : Int) = (p16 : Int) := IntWalk.i64_in _ (by omega)
        have n7 : (0 : Int) ≤ (p7 : Int) := by omega
        have n16 : (0 : Int) ≤ (p16 : Int) := by omega
        have c7s : ({ heap := wr.heap, tape := wr.tape, drawn := (wr.drewN nq).drawn + 1, os := (wr.drewN nq).os, output := (wr.drewN nq).output } : World).cell? ⟨g + 1, p7, none⟩ = some (.int .u32 ((wordN s p7 : Nat) : Int)) := c7
        have c16s : ({ heap := wr.heap, tape := wr.tape, drawn := (wr.drewN nq).drawn + 1, os := (wr.drewN nq).os, output := (wr.drewN nq).output } : World).cell? ⟨g + 1, p16, none⟩ = some (.int .u32 ((wordN s p16 : Nat) : Int)) := c16
        go_still_tail 29, (by kernel_rfl)
        still_call (ror_any _ w2 17 (by decide) _)
        repeat still_step
        still_call (ror_any _ w2 19 (by decide) _)
        repeat still_step
        still_call (ror_any _ w1 7 (by decide) _)
        repeat still_step
        still_call (ror_any _ w1 18 (by decide) _)
        repeat still_step
        refine wpStill_nil ?_
        change wpList _ _ _ _ _ (wr.drewN nq).drew
        clear c7s c16s
        have ct := H1.cell t
        rw [ka_at _ hlt] at ct
        have ft := H1.frozen t
        have i0 : (0 : Int) ≤ (t : Int) := by omega
        have i1 : (t : Int) < 64 := by omega
        go_wp2
        go_roundw
        case rel =>
          refine ⟨t + 1, by omega, by go_num, ?_, (Blk.drew (H2.drewN nq)).far (p := ⟨g + 1, t, none⟩) (by simp) _, (Mem.below_drew (Mem.below_drewN b1 nq)).setCell (p := ⟨g + 1, t, none⟩) (by simp) _⟩
          have H3 := (Blk.drew (H1.drewN nq)).set_ t (.int .u32 ((wordN s t : Nat) : Int))
          rw [wcut_set s t hlt] at H3
          have hw := wordN_high s t (by omega) hlt
          have g1 := HP1.out
          have g2 := HP2.out
          have g7 := HP7.out
          have g16 := HP16.out
          rw [show t - 2 = p2 by omega, show t - 7 = p7 by omega, show t - 15 = p1 by omega, show t - 16 = p16 by omega] at hw
          rw [hw, ← nextV _ _ _ _ w1 w2] at H3
          exact H3
        case measure => simp [intOf]; omega
    · obtain rfl : t = 64 := by omega
      rw [show ((64 : Nat) : Int) = 64 from rfl]
      go_wp2_with (first | (refine wpList_load_row rfl 127 _ rfl (g + 1) rfl 127 _ (0, 0) _ H1 Try.underlying127 rfl (size64w _) ?_) | (refine wpList_store_row rfl 127 _ _ rfl g _ rfl rfl 127 _ H2 (size64w _) (by rw [ka_size, ka_size]) (ka_one _ _ _) ?_))
      have e : ka .u32 64 (wcut s 64) = ka .u32 64 fun t => ((wordN s t : Nat) : Int) := ka_ext fun i hi => if_pos hi
      rw [e]
      exact bodyPost_ret (results_cell_row rfl _ _ g 127 _ (0, 0) _ rfl (H2.row _) Try.underlying127 rfl (size64w _)) rfl ⟨rfl, by rw [HG.out]; exact below_row b1 (Nat.le_refl g) _⟩
end Go.Proofs.Ytolbhliepkcihaa.Sha
