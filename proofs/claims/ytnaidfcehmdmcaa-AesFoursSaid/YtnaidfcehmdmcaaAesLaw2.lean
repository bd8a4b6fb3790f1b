/- AesFours: the walk. -/
import Derived.Test.YtnaidfcehmdmcaaAesLaw1
import Derived.Test.YtnaidfcehmdmcaaAesFour
namespace Go.Proofs.Ytnaidfcehmdmcaa.AS
open Go.RowKit Go.Proofs.YtnaidfcehmdmcaaW.PrintWords Go.Proofs.YtnaidfcehmdmcaaW.PrintLast Go.Proofs.YtnaidfcehmdmcaaW.PrintMore
open Go.Proofs.Ytnaidfcehmdmcaa.FC Go.Proofs.Ytnaidfcehmdmcaa.Mem
def tN (c : ByteArray) : Nat → ByteArray
  | 0 => c
  | k + 1 => turnedS (tN c k)
def mN (c : ByteArray) : Nat → ByteArray
  | 0 => c
  | k + 1 => mixedS (mN c k)
theorem tN_size (c : ByteArray) (h : c.size = 16) : ∀ k, (tN c k).size = 16
  | 0 => h
  | _ + 1 => txt_size _
theorem mN_size (c : ByteArray) (h : c.size = 16) : ∀ k, (mN c k).size = 16
  | 0 => h
  | _ + 1 => txt_size _
set_option maxRecDepth 100000 in
set_option maxHeartbeats 4000000 in
theorem fours_all (s : ByteArray) (w : World) : Calls Try.prog 8 #[.string s] w fun e w' => e = .returned (.bool true) ∧ Below w.heap.size w w' := by
  have HB := Lib.hid (Below.refl w.heap.size w)
  have hcut := cut_any s
  generalize cutS s = c at *
  have HC := Lib.hid hcut
  clear hcut
  by_cases h16 : c.size = 16
  · have ht4 := Lib.hid (turned_four c h16)
    have hm4 := Lib.hid (mixed_four c h16)
    have hts := Lib.hid (tN_size c h16)
    have hms := Lib.hid (mN_size c h16)
    clear h16
    go_enter Try.func8, Try.ntmps8
    go_wp2_with (first | (go_at_call 23; refine (HC.out _).mono ?_; rintro e w1 ⟨rfl, hb⟩; replace HB := Lib.hid (Bel.step HB.out hb); clear hb))
    go_loopw [3, 4, 13] (fun a b i wr => ∃ k : Nat, k ≤ 4 ∧ a = .string (tN c k) ∧ b = .string (mN c k) ∧ i = .int .i64 k ∧ Hid (Below w.heap.size w wr)) (fun _ _ i _ => 4 - (intOf i).toNat)
    case atStart => exact ⟨0, by omega, rfl, rfl, rfl, HB⟩
    case round =>
      clear HB
      obtain ⟨k, hk, rfl, rfl, rfl, HB⟩ := hrel
      by_cases hlt : k < 4
      · have b2 := Lib.hid (Turned_yes (tN c k) (hts.out k))
        have b3 := Lib.hid (Mixed_yes (mN c k) (hms.out k))
        have e1 := Lib.hid (show turnedS (tN c k) = tN c (k + 1) from rfl)
        have e2 := Lib.hid (show mixedS (mN c k) = mN c (k + 1) from rfl)
        rw [e1.out] at b2
        rw [e2.out] at b3
        generalize tN c (k + 1) = x at *
        generalize mN c (k + 1) = y at *
        go_wp2_with (first | (go_at_call 25; refine (b2.out _).mono ?_; rintro e w1 ⟨rfl, hb⟩; replace HB := Lib.hid (Bel.step HB.out hb); clear hb) | (go_at_call 26; refine (b3.out _).mono ?_; rintro e w1 ⟨rfl, hb⟩; replace HB := Lib.hid (Bel.step HB.out hb); clear hb))
        go_roundw
        case rel => exact ⟨k + 1, by omega, by rw [← e1.out]; rfl, by rw [← e2.out]; rfl, by go_num, HB⟩
        case measure => simp [intOf]; omega
      · obtain rfl : k = 4 := by omega
        have f1 : tN c 4 = c := ht4.out
        have f2 : mN c 4 = c := hm4.out
        rw [f1, f2]
        clear f1 f2
        go_wp2_with (first | (go_at_call 27; refine (alive06 _).mono ?_; rintro e w1 ⟨rfl, hb⟩; replace HB := Lib.hid (Bel.step HB.out hb); clear hb))
        go_ret
        exact ⟨by first | rfl | (simp; done) | (simp [*]; done) | (simp; rfl), HB.out⟩
  · have hne : ((c.size : Int) != 16) = true := by rw [bne_iff_ne]; omega
    have b2 := Lib.hid (Turned_no c h16)
    have b3 := Lib.hid (Mixed_no c h16)
    go_enter Try.func8, Try.ntmps8
    go_wp2_with (first | (go_at_call 23; refine (HC.out _).mono ?_; rintro e w1 ⟨rfl, hb⟩; replace HB := Lib.hid (Bel.step HB.out hb); clear hb))
    go_loopw [3, 4, 13] (fun a b i wr => a = .string c ∧ b = .string c ∧ i = .int .i64 0 ∧ Hid (Below w.heap.size w wr)) (fun _ _ i _ => 4 - (intOf i).toNat)
    case atStart => exact ⟨rfl, rfl, rfl, HB⟩
    case round =>
      clear HB
      obtain ⟨rfl, rfl, rfl, HB⟩ := hrel
      go_wp2_with (first | (go_at_call 25; refine (b2.out _).mono ?_; rintro e w1 ⟨rfl, hb⟩; replace HB := Lib.hid (Bel.step HB.out hb); clear hb) | (go_at_call 26; refine (b3.out _).mono ?_; rintro e w1 ⟨rfl, hb⟩; replace HB := Lib.hid (Bel.step HB.out hb); clear hb) | (go_at_call 27; refine (alive06 _).mono ?_; rintro e w1 ⟨rfl, hb⟩; replace HB := Lib.hid (Bel.step HB.out hb); clear hb))
      go_ret
      exact ⟨by first | rfl | (simp; done) | (simp [*]; done) | (simp; rfl), HB.out⟩
theorem steps_row (s : ByteArray) (w : World) (_h : s.size ≤ 140737488351232) : Calls Try.prog 7 #[.string s] w fun e w' => e = .returned (.bool true) ∧ Below w.heap.size w w' := steps_all s w
theorem fours_row (s : ByteArray) (w : World) (_h : s.size ≤ 140737488351232) : Calls Try.prog 8 #[.string s] w fun e w' => e = .returned (.bool true) ∧ Below w.heap.size w w' := fours_all s w
end Go.Proofs.Ytnaidfcehmdmcaa.AS
