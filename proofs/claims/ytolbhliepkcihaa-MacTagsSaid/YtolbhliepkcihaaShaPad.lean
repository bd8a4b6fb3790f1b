/- SHA-256: a text padded: the walk. -/
import Derived.Test.YtolbhliepkcihaaShaMix
import Derived.Test.YtolbhliepkcihaaShelf
import Derived.Laws.BytesArg
namespace Go.Proofs.Ytolbhliepkcihaa.Sha
open Go.RowKit Go.Proofs.Ytolbhliepkcihaa.QR Go.Proofs.Ytolbhliepkcihaa.Mem Go.Proofs.YtolbhliepkcihaaW.PrintWords Go.Proofs.YtolbhliepkcihaaW.PrintLast Go.Proofs.YtolbhliepkcihaaW.PrintMore
theorem ofNats_size (l : List Nat) : (ofNats l).size = l.length := by simp [ofNats, ByteArray.size]
def zeroText : ByteArray := ⟨#[0]⟩
theorem repeatL_zero (c : Nat) : Lib.repeatL zeroText.data.toList c = List.replicate c 0 := by
  have h : zeroText.data.toList = [0] := rfl
  rw [h]
  induction c with
  | zero => rfl
  | succ c ih => rw [List.replicate_succ, ← ih]; rfl
theorem repeat_any (c : Nat) (hc : c ≤ 100) (w : World) :
    Calls Try.prog 70 #[.string ⟨#[0]⟩, .int .i64 (c : Int)] w fun e w' => e = .returned (.string (ofNats (List.replicate c 0))) ∧ Below w.heap.size w w' := by
  have h := Try.strings_Repeat zeroText c w (by omega) (by simp [zeroText, ByteArray.size]; omega)
  rw [repeatL_zero] at h
  have e : ofNats (List.replicate c 0) = ⟨(List.replicate c 0).toArray⟩ := by unfold ofNats; congr 2; simp
  rw [e]
  exact h
def tailAt (n : Nat) (i : Nat) : Nat := n / 2 ^ (56 - 8 * i) % 256
theorem high8_eq (n : Nat) : (List.range 8).map (tailAt n) = high8 n := by
  have h : List.range 8 = [0, 1, 2, 3, 4, 5, 6, 7] := rfl
  rw [h]
  simp [tailAt, high8]
def tcut (n t i : Nat) : Int := if i < t then ((tailAt n i : Nat) : Int) else 0
theorem tcut_set (n t : Nat) (ht : t < 8) : (ka .u8 8 (tcut n t)).setIfInBounds t (.int .u8 ((tailAt n t : Nat) : Int)) = ka .u8 8 (tcut n (t + 1)) := by
  rw [ka_set _ _ ht]
  refine ka_ext fun i _ => ?_
  unfold tcut
  by_cases h : i = t
  · subst h; rw [if_pos rfl, if_pos (by omega)]
  · rw [if_neg h]
    by_cases h2 : i < t
    · rw [if_pos h2, if_pos (by omega)]
    · rw [if_neg h2, if_neg (by omega)]
theorem size8b (f : Nat → Int) : (Try.prog.info? 82).map (·.size) = some (ka .u8 8 f).size := by rw [ka_size]; kernel_rfl
theorem zero8b : #[Value.int .u8 0, .int .u8 0, .int .u8 0, .int .u8 0, .int .u8 0, .int .u8 0, .int .u8 0, .int .u8 0] = ka .u8 8 fun _ => 0 := rfl
theorem slice8b (g : Nat) (w : World) : (Instr.sliceAt 82 (.pointer (some ⟨g, 0, none⟩)) none none none).run Try.prog w = .ok (.slice (some ⟨g, 0, none⟩) 8 8) w := by
  have hu : Try.prog.underlying 82 = some (.array (Try.prog.arrayLen 82) (Try.prog.elem 82)) := by kernel_rfl
  have hs' : (sizeOf (Try.prog.elem 82)).run Try.prog w = .ok 1 w := by kernel_rfl
  have hl : Try.prog.arrayLen 82 = 8 := by kernel_rfl
  rw [run_sliceAt_array_all w 82 ⟨g, 0, none⟩ hu, hs', Result.andThen_ok, hl, slicedAt]
  rfl
theorem conv8 (f : Nat → Int) (g : Nat) (w : World) (h : Blk w g 82 (ka .u8 8 f)) : (convert 37 9 (.slice (some ⟨g, 0, none⟩) 8 8)).run Try.prog w = .ok (.string (strOfNums ((List.range 8).map f))) w := by
  refine run_convert_bytes_arg w 37 5 Try.underlying37 Try.underlying5 g 0 8 8 ((List.range 8).map f) (by simp) (fun i hi => ?_) 9 Try.underlying9
  rw [Nat.zero_add, h.cell, ka_at f hi]
  simp [List.getElem?_range hi]
set_option maxRecDepth 100000 in
set_option maxHeartbeats 4000000 in
theorem pad_any (s : ByteArray) (hs : s.size ≤ 1099511627776) (w : World) :
    Calls Try.prog 24 #[.string s] w fun e w' => e = .returned (.string (padS s)) ∧ Below w.heap.size w w' := by
  have hz0 : (64 : Int) - ((s.size : Int) + 9) % 64 ≥ 1 := by omega
  obtain ⟨z, hz⟩ : ∃ z, zerosN s.size = z := ⟨_, rfl⟩
  have hz1 : ((64 : Int) - ((s.size : Int) + 9) % 64) % 64 = (z : Int) := by rw [← hz]; unfold zerosN; omega
  have hz2 : z ≤ 63 := by rw [← hz]; unfold zerosN; omega
  obtain ⟨n, hn⟩ : ∃ n, s.size * 8 = n := ⟨_, rfl⟩
  have hn1 : (s.size : Int) * 8 = (n : Int) := by omega
  have hn2 : n ≤ 8796093022208 := by omega
  have HZ := Lib.hid hz
  have HN := Lib.hid hn
  clear hz hn
  go_enter Try.func24, Try.ntmps24
  go_wp2
  rw [zero8b, hz1]
  have L0 := Blk.new w 82 (ka .u8 8 fun _ => 0)
  have B0 := (Below.refl w.heap.size w).alloc (Nat.le_refl _) (.cells (ka .u8 8 fun _ => 0) 82)
  generalize w.alloc (.cells (ka .u8 8 fun _ => 0) 82) = w1 at *
  obtain ⟨g, hg⟩ : ∃ g, w.heap.size = g := ⟨_, rfl⟩
  rw [hg] at L0 B0 ⊢
  clear hz0 hz1 hn1
  have HG := Lib.hid hg
  clear hg
  go_loopw [17] (fun i wr => ∃ t : Nat, t ≤ 8 ∧ i = .int .i64 t ∧ Blk wr g 82 (ka .u8 8 (tcut n t)) ∧ Below g w wr) (fun i _ => 8 - (intOf i).toNat)
  case atStart => exact ⟨0, by omega, rfl, L0, B0⟩
  case round =>
    clear L0 B0
    obtain ⟨t, ht, rfl, L0, b0⟩ := hrel
    by_cases hlt : t < 8
    · obtain ⟨c, hc⟩ : ∃ c, 56 - 8 * t = c := ⟨_, rfl⟩
      have hc1 : (56 : Int) - 8 * (t : Int) = (c : Int) := by omega
      have hc2 : (c : Int) ≤ 56 := by omega
      have hc0 : (0 : Int) ≤ (c : Int) := by omega
      have i0 : (0 : Int) ≤ (t : Int) := by omega
      have i1 : (t : Int) < 8 := by omega
      have ct := L0.cell t
      rw [ka_at _ hlt] at ct
      have ft := L0.frozen t
      have HC := Lib.hid hc
      clear hc
      go_wp2
      go_roundw
      case rel =>
        refine ⟨t + 1, by omega, by go_num, ?_, b0.setCell (p := ⟨g, t, none⟩) (Nat.le_refl _) _⟩
        have H3 := L0.set_ t (.int .u8 ((tailAt n t : Nat) : Int))
        rw [tcut_set n t hlt] at H3
        rw [show ((tailAt n t : Nat) : Int) = (n : Int) / 2 ^ c % 256 by unfold tailAt; rw [HC.out]; norm_cast] at H3
        exact H3
      case measure => simp [intOf]; omega
    · obtain rfl : t = 8 := by omega
      rw [show ((8 : Nat) : Int) = 8 from rfl]
      go_wp2
      have e8 : ka .u8 8 (tcut n 8) = ka .u8 8 fun i => ((tailAt n i : Nat) : Int) := ka_ext fun i hi => if_pos hi
      rw [e8] at L0
      clear e8
      have hsl := slice8b g
      have hcv0 := conv8 (fun i => ((tailAt n i : Nat) : Int)) g wr.drew L0.drew
      have hcat : s.size + 1 ≤ 9223372036854775807 := by omega
      have hq1 : (ofNats (List.replicate z 0)).size = z := by rw [ofNats_size]; simp
      have hq2 : (strOfNums ((List.range 8).map fun (i : Nat) => ((tailAt n i : Nat) : Int))).size = 8 := by rw [strOfNums_size]; simp
      have hrep := fun W : World => repeat_any z (by omega) W
      generalize hzt : ofNats (List.replicate z 0) = zt at *
      have HREP := Lib.hid hrep
      have HZT := Lib.hid hzt
      clear hrep hzt
      have hcv9 := fun W h => conv8 (fun i => ((tailAt n i : Nat) : Int)) g W h
      generalize htt : strOfNums ((List.range 8).map fun (i : Nat) => ((tailAt n i : Nat) : Int)) = tt at *
      have HTT := Lib.hid htt
      have HCV := Lib.hid hcv9
      clear htt hcv9
      have hq3 : s.size + 1 + z ≤ 9223372036854775807 := by omega
      have hq4 : s.size + 1 + z + 8 ≤ 9223372036854775807 := by omega
      have hgl := L0.lt
      have HP : Hid (padS s = ((s ++ ⟨#[128]⟩) ++ zt) ++ tt) := Lib.hid (by
        unfold padS
        rw [HZ.out, HZT.out, HN.out, Nat.mod_eq_of_lt (by omega), ← high8_eq, ← ofNats_eq, ← HTT.out]
        unfold ints
        rw [List.map_map]
        rfl)
      go_region_with ((go_at_call 70; refine (HREP.out _).mono ?_; rintro e w5 ⟨rfl, hb5⟩; have L5 := L0.drew.below hb5 L0.lt; have hcv5 := HCV.out w5 L5))
      all_goals go_wp2
      all_goals go_ret
      all_goals exact ⟨by (show Ending.returned (.string (((s ++ ⟨#[128]⟩) ++ zt) ++ tt)) = _); rw [HP.out], by rw [HG.out]; exact (Mem.below_drew b0).trans (hb5.mono (by simp; omega))⟩
end Go.Proofs.Ytolbhliepkcihaa.Sha
