/- mac.keys and mac.of: the walks. -/
import Derived.Test.YtolbhliepkcihaaMacSpec
import Derived.Lib.ConvBytes
namespace Go.Proofs.Ytolbhliepkcihaa.Mac
open Go.RowKit Go.Proofs.Ytolbhliepkcihaa.Mem Go.Proofs.Ytolbhliepkcihaa.Sha Go.Proofs.YtolbhliepkcihaaW.PrintWords Go.Proofs.YtolbhliepkcihaaW.PrintLast Go.Proofs.YtolbhliepkcihaaW.PrintMore
theorem data_bn (s : ByteArray) (i : Nat) (hi : i < s.size) : (((s.data.toList.getD i 0).toNat : Nat) : Int) = ((bn s i : Nat) : Int) := by
  congr 1
  unfold bn
  rw [dif_pos hi, List.getD_eq_getElem?_getD, List.getElem?_eq_getElem (by simpa using hi)]
  rfl
theorem x8 (a b : Nat) (ha : a < 256) (hb : b < 256) : bits .xor .u8 (a : Int) (b : Int) = ((a ^^^ b : Nat) : Int) := u8_xor_nat a b ha hb
def xcut (k : ByteArray) (c t i : Nat) : Nat := if i < t then bn k i ^^^ c else bn k i
set_option maxRecDepth 100000 in
set_option maxHeartbeats 4000000 in
theorem with_any (k : ByteArray) (hk : k.size = 64) (c : Nat) (hc : c < 256) (kb : Nat) (w : World) (hcell : w.cell? ⟨kb, 0, none⟩ = some (.string k)) :
    Calls Try.prog 106 #[.int .u8 (c : Int), .pointer (some ⟨kb, 0, none⟩)] w fun e w' => e = .returned (.string (xorS k c)) ∧ Below w.heap.size w w' := by
  have hcv := Lib.run_convert_string_bytes (P := Try.prog) w 9 37 5 k Try.underlying9 Try.underlying37 Try.underlying5
  rw [hk] at hcv
  obtain ⟨g, hg⟩ : ∃ g, w.heap.size = g := ⟨_, rfl⟩
  have b1 : Below g w (Lib.bytesWorld w 5 k) := by
    rw [← hg]
    exact ⟨rfl, rfl, rfl, by rw [Lib.bytesWorld_size]; omega, fun i hi => Lib.bytesWorld_at_old w 5 k i hi⟩
  have c1 : ∀ j, j < 64 → (Lib.bytesWorld w 5 k).cell? ⟨g, j, none⟩ = some (.int .u8 ((xcut k c 0 j : Nat) : Int)) := fun j hj => by
    rw [← hg, Lib.bytesWorld_cell w 5 k j (by omega), data_bn k j (by omega)]
    rfl
  have f1 : ∀ j, j < 64 → (Lib.bytesWorld w 5 k).frozen? ⟨g, j, none⟩ = false := fun j hj => by
    have h := Lib.bytesWorld_at_new w 5 k
    have hz : (Lib.bytesCells w 5 k).size = grownCap w k.size 0 5 := by
      have := grownCap_ge w k.size 0 5
      simp [Lib.bytesCells]; omega
    have h2 := grownCap_ge w k.size 0 5
    rw [hg] at h
    simp [World.frozen?, h]; omega
  generalize grownCap w 64 0 5 = cap at *
  have C1 := Lib.hid c1
  have F1 := Lib.hid f1
  have HG := Lib.hid hg
  rw [hg] at hcv ⊢
  clear c1 f1 hg
  generalize Lib.bytesWorld w 5 k = w1 at *
  go_enter Try.func106, Try.ntmps106
  go_wp2
  clear hcv hcell
  go_loopw [10] (fun i wr => ∃ t : Nat, t ≤ 64 ∧ i = .int .i64 t ∧ Hid (∀ j, j < 64 → wr.cell? ⟨g, j, none⟩ = some (.int .u8 ((xcut k c t j : Nat) : Int))) ∧ Hid (∀ j, j < 64 → wr.frozen? ⟨g, j, none⟩ = false) ∧ Below g w wr) (fun i _ => 64 - (intOf i).toNat)
  case atStart => exact ⟨0, by omega, rfl, C1, F1, b1⟩
  case round =>
    clear C1 F1 b1
    obtain ⟨t, ht, rfl, C1, F1, b1⟩ := hrel
    by_cases hlt : t < 64
    · have ct := C1.out t hlt
      have ft := F1.out t hlt
      have i0 : (0 : Int) ≤ (t : Int) := by omega
      have i1 : (t : Int) < 64 := by omega
      have e0 : xcut k c t t = bn k t := if_neg (by omega)
      rw [e0] at ct
      have hx := x8 (bn k t) c (bn_lt k t) hc
      clear e0
      go_wp2
      go_roundw
      case rel =>
        refine ⟨t + 1, by omega, by go_num, Lib.hid fun j hj => ?_, Lib.hid fun j hj => by rw [World.frozen?_setCell]; exact F1.out j hj, b1.setCell (p := ⟨g, t, none⟩) (Nat.le_refl _) _⟩
        by_cases hjt : j = t
        · subst hjt
          rw [World.cell?_setCell_same' _ _ _ (by rw [C1.out j hj]; rfl)]
          unfold xcut
          rw [if_pos (by omega)]
        · rw [World.cell?_setCell_other _ _ _ _ (by simp <;> omega), C1.out j hj]
          unfold xcut
          by_cases h2 : j < t
          · rw [if_pos h2, if_pos (by omega)]
          · rw [if_neg h2, if_neg (by omega)]
      case measure => simp [intOf]; omega
    · obtain rfl : t = 64 := by omega
      rw [show ((64 : Nat) : Int) = 64 from rfl]
      have hcv2 : (convert 37 9 (.slice (some ⟨g, 0, none⟩) 64 cap)).run Try.prog wr = .ok (.string (strOfNums (ints ((List.range 64).map fun i => bn k i ^^^ c)))) wr := by
        refine run_convert_bytes_arg wr 37 5 Try.underlying37 Try.underlying5 g 0 64 cap (ints ((List.range 64).map fun i => bn k i ^^^ c)) (by simp [ints]) (fun i hi => ?_) 9 Try.underlying9
        rw [Nat.zero_add, C1.out i hi]
        unfold xcut
        rw [if_pos hi]
        simp [ints, List.getElem?_range hi]
      rw [ofNats_eq] at hcv2
      go_wp2
      go_ret
      exact ⟨rfl, b1⟩
end Go.Proofs.Ytolbhliepkcihaa.Mac
