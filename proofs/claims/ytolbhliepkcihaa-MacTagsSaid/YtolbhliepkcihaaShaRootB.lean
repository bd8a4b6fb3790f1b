/- SHA-256's numbers: the lowest bits of a root: the walk, at squares and at cubes. -/
import Derived.Test.YtolbhliepkcihaaShaRootA
import Derived.LoopTactic
import Derived.Laws.BitsAllLaws
namespace Go.Proofs.Ytolbhliepkcihaa.Sha
open Go.RowKit Go.Proofs.Ytolbhliepkcihaa.Mem
def rootGo (is : Nat → Nat → Bool) (p : Nat) : Nat → Nat → Nat
  | 0, out => out
  | n + 1, out => rootGo is p n (if is (out ||| 2 ^ n) p then out ||| 2 ^ n else out)
def rootN (is : Nat → Nat → Bool) (p : Nat) : Nat := rootGo is p 38 0 % 4294967296
theorem half (n : Nat) (hn : 0 < n) : ((2 ^ n / 2 : Nat) : Int) / 2 = ((2 ^ (n - 1) / 2 : Nat) : Int) := by
  obtain ⟨m, rfl⟩ : ∃ m, n = m + 1 := ⟨n - 1, by omega⟩
  rw [Nat.pow_succ, Nat.mul_div_cancel _ (by decide), Nat.add_sub_cancel]
  omega
theorem bit_pos (n : Nat) (hn : 0 < n) : 0 < 2 ^ n / 2 := by
  obtain ⟨m, rfl⟩ : ∃ m, n = m + 1 := ⟨n - 1, by omega⟩
  rw [Nat.pow_succ, Nat.mul_div_cancel _ (by decide)]
  exact Nat.pow_pos (by decide)
theorem bit_lt (n : Nat) (hn : n ≤ 38) : 2 ^ n / 2 < 274877906944 := by
  have : 2 ^ n ≤ 2 ^ 38 := Nat.pow_le_pow_right (by decide) hn
  omega
theorem or38 {a b : Nat} (ha : a < 274877906944) (hb : b < 274877906944) : a ||| b < 274877906944 := Nat.or_lt_two_pow (n := 38) ha hb
theorem rootGo_step (is : Nat → Nat → Bool) (p n out : Nat) (hn : 0 < n) : rootGo is p n out = rootGo is p (n - 1) (if is (out ||| 2 ^ n / 2) p then out ||| 2 ^ n / 2 else out) := by
  obtain ⟨m, rfl⟩ : ∃ m, n = m + 1 := ⟨n - 1, by omega⟩
  rw [Nat.pow_succ, Nat.mul_div_cancel _ (by decide), Nat.add_sub_cancel]
  rfl
set_option maxRecDepth 100000 in
set_option maxHeartbeats 2000000 in
theorem root_square (p : Nat) (w : World) :
    Calls Try.prog 97 #[.int .u64 (p : Int), .func (.func 68) #[] #[]] w fun e w' => e = .returned (.int .u32 ((rootN sqB p : Nat) : Int)) ∧ w' = w := by
  go_enter Try.func97, Try.ntmps97
  go_wp2
  obtain ⟨R, hR⟩ : ∃ R, rootGo sqB p 38 0 = R := ⟨_, rfl⟩
  go_loop [5, 6] (fun o b => ∃ (n out : Nat), n ≤ 38 ∧ out < 274877906944 ∧ o = .int .u64 (out : Int) ∧ b = .int .u64 ((2 ^ n / 2 : Nat) : Int) ∧ Hid (rootGo sqB p n out = R)) (fun _ b => (intOf b).toNat)
  case atStart => exact ⟨38, 0, by omega, by decide, rfl, rfl, Lib.hid hR⟩
  case round =>
    obtain ⟨n, out, hn, ho, rfl, rfl, HG⟩ := hrel
    have HR := Lib.hid hR
    clear hR
    by_cases h0 : 0 < n
    · have hb := bit_pos n h0
      have hb2 := bit_lt n hn
      have hh := half n h0
      have hs := rootGo_step sqB p n out h0
      have hnx : 2 ^ (n - 1) / 2 < 2 ^ n / 2 := by
        obtain ⟨m, rfl⟩ : ∃ m, n = m + 1 := ⟨n - 1, by omega⟩
        rw [Nat.pow_succ, Nat.mul_div_cancel _ (by decide), Nat.add_sub_cancel]
        exact Nat.div_lt_self (Nat.pow_pos (by decide)) (by decide)
      have hi := bit_lt (n - 1) (by omega)
      generalize 2 ^ n / 2 = b at *
      generalize hc : 2 ^ (n - 1) / 2 = c at *
      have HCC := Lib.hid hc
      clear hc
      have hor := or38 ho hb2
      have hbo : bits .or .u64 (out : Int) (b : Int) = ((out ||| b : Nat) : Int) := u64_or_nat out b (by omega) (by omega)
      generalize out ||| b = q at *
      have hq : q < W64 := by unfold W64; omega
      have HS := Lib.hid hs
      have HC := Lib.hid (square_any q p hq)
      clear hs hq
      have hp0 : (0 : Int) < (b : Int) := by omega
      by_cases his : sqB q p = true
      · rw [his] at HC HS
        go_wp2_with (go_at_call 68; refine (HC.out _).mono ?_; rintro e w' ⟨rfl, rfl⟩)
        go_round
        case rel => exact ⟨n - 1, q, by omega, hor, rfl, by rw [HCC.out], Lib.hid (by have h := HS.out; simp only [if_true] at h; exact h.symm.trans HG.out)⟩
        case measure => simp [intOf]; omega
      · have his' : sqB q p = false := by simpa using his
        rw [his'] at HC HS
        clear his
        go_wp2_with (go_at_call 68; refine (HC.out _).mono ?_; rintro e w' ⟨rfl, rfl⟩)
        go_round
        case rel => exact ⟨n - 1, out, by omega, ho, rfl, by rw [HCC.out], Lib.hid (by have h := HS.out; rw [if_neg (by simp)] at h; exact h.symm.trans HG.out)⟩
        case measure => simp [intOf]; omega
    · obtain rfl : n = 0 := by omega
      go_wp2
      go_ret
      have hg : out = R := HG.out
      refine ⟨?_, rfl⟩
      show Ending.returned (.int .u32 _) = _
      congr 2
      unfold rootN
      rw [HR.out, ← hg]
      omega
set_option maxRecDepth 100000 in
set_option maxHeartbeats 2000000 in
theorem root_cube (p : Nat) (w : World) :
    Calls Try.prog 97 #[.int .u64 (p : Int), .func (.func 69) #[] #[]] w fun e w' => e = .returned (.int .u32 ((rootN cubeB p : Nat) : Int)) ∧ w' = w := by
  go_enter Try.func97, Try.ntmps97
  go_wp2
  obtain ⟨R, hR⟩ : ∃ R, rootGo cubeB p 38 0 = R := ⟨_, rfl⟩
  go_loop [5, 6] (fun o b => ∃ (n out : Nat), n ≤ 38 ∧ out < 274877906944 ∧ o = .int .u64 (out : Int) ∧ b = .int .u64 ((2 ^ n / 2 : Nat) : Int) ∧ Hid (rootGo cubeB p n out = R)) (fun _ b => (intOf b).toNat)
  case atStart => exact ⟨38, 0, by omega, by decide, rfl, rfl, Lib.hid hR⟩
  case round =>
    obtain ⟨n, out, hn, ho, rfl, rfl, HG⟩ := hrel
    have HR := Lib.hid hR
    clear hR
    by_cases h0 : 0 < n
    · have hb := bit_pos n h0
      have hb2 := bit_lt n hn
      have hh := half n h0
      have hs := rootGo_step cubeB p n out h0
      have hnx : 2 ^ (n - 1) / 2 < 2 ^ n / 2 := by
        obtain ⟨m, rfl⟩ : ∃ m, n = m + 1 := ⟨n - 1, by omega⟩
        rw [Nat.pow_succ, Nat.mul_div_cancel _ (by decide), Nat.add_sub_cancel]
        exact Nat.div_lt_self (Nat.pow_pos (by decide)) (by decide)
      have hi := bit_lt (n - 1) (by omega)
      generalize 2 ^ n / 2 = b at *
      generalize hc : 2 ^ (n - 1) / 2 = c at *
      have HCC := Lib.hid hc
      clear hc
      have hor := or38 ho hb2
      have hbo : bits .or .u64 (out : Int) (b : Int) = ((out ||| b : Nat) : Int) := u64_or_nat out b (by omega) (by omega)
      generalize out ||| b = q at *
      have hq : q < W64 := by unfold W64; omega
      have HS := Lib.hid hs
      have HC := Lib.hid (cube_any q p hq)
      clear hs hq
      have hp0 : (0 : Int) < (b : Int) := by omega
      by_cases his : cubeB q p = true
      · rw [his] at HC HS
        go_wp2_with (go_at_call 69; refine (HC.out _).mono ?_; rintro e w' ⟨rfl, rfl⟩)
        go_round
        case rel => exact ⟨n - 1, q, by omega, hor, rfl, by rw [HCC.out], Lib.hid (by have h := HS.out; simp only [if_true] at h; exact h.symm.trans HG.out)⟩
        case measure => simp [intOf]; omega
      · have his' : cubeB q p = false := by simpa using his
        rw [his'] at HC HS
        clear his
        go_wp2_with (go_at_call 69; refine (HC.out _).mono ?_; rintro e w' ⟨rfl, rfl⟩)
        go_round
        case rel => exact ⟨n - 1, out, by omega, ho, rfl, by rw [HCC.out], Lib.hid (by have h := HS.out; rw [if_neg (by simp)] at h; exact h.symm.trans HG.out)⟩
        case measure => simp [intOf]; omega
    · obtain rfl : n = 0 := by omega
      go_wp2
      go_ret
      have hg : out = R := HG.out
      refine ⟨?_, rfl⟩
      show Ending.returned (.int .u32 _) = _
      congr 2
      unfold rootN
      rw [HR.out, ← hg]
      omega
end Go.Proofs.Ytolbhliepkcihaa.Sha
