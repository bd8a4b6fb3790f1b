/- The iterator over the primes: its contract. -/
import Derived.RangeFuncNested
import Derived.RangeFuncBound
import Derived.RangeFuncCalls
import Derived.RangeFuncLeaves
import Derived.Shelf.Abstract
import Derived.Shelf.RegionOpen
import Derived.WalkKit
import Derived.OwnWalkIn
import Derived.TacticsInMore
import Derived.LoopNIn
import Derived.LoopIn
import Derived.Test.YtolbhliepkcihaaShaPrimes
import Derived.Test.YtolbhliepkcihaaUntil
namespace Go.Proofs.Ytolbhliepkcihaa.Sha
open Go.RowKit Go.Shelf Go.Proofs.Ytolbhliepkcihaa.Mem Go.Proofs.Ytolbhliepkcihaa.Until
attribute [local go_sem] Oper.semAt_some
theorem noDiv_succ (n d : Nat) (h : 2 ≤ d) : noDiv n (d + 1) = (noDiv n d && (n % d != 0)) := by
  have : ¬ d < 2 := by omega
  simp [noDiv, this]
theorem noDiv_two (n : Nat) : noDiv n 2 = true := by simp [noDiv]
set_option maxRecDepth 100000 in
set_option maxHeartbeats 4000000 in
theorem primes_iter (F : Fence) (n : Nat) (hF : F.fn 112) (hro : F.round = none) (hn : 1 ≤ n) (N n₀ : Nat) (hN65 : N ≤ 65) :
    SeqUntil F n Try.prog 112 #[] (fun k => .int .u64 ((primeN k : Nat) : Int)) N n₀ := by
  intro l J Jx W hW hA hJN hY h0
  refine callsIn_of_wp Try.func112 rfl hF ?_ hro
  simp only [Try.ntmps112, List.size_toArray, List.length_cons, List.length_nil, Nat.reduceAdd, Nat.reduceSub, Array.replicate_succ, Array.replicate_zero, List.push_toArray, List.append_toArray, List.nil_append, List.cons_append]
  gi_wp2
  gi_loopw [2, 3, 4] (fun nv _ _ wr => ∃ m : Nat, 2 ≤ m ∧ m < 314 ∧ nv = .int .u64 (m : Int) ∧ J (cntP m) wr) (fun nv _ _ _ => 400 - (intOf nv).toNat)
  case atStart => exact ⟨2, by omega, by omega, rfl, by rw [cnt_two]; exact h0⟩
  case round =>
    obtain ⟨m, hm2, hm3, rfl, hJ⟩ := hrel
    have hup := up_ok m hm3 hm2
    have hpr := prime_ok m hm3 hm2
    have hlt20 := hup.2
    have hsq := hup.1
    clear hup
    have hD2 : 2 ≤ rootUp m := by unfold rootUp; omega
    generalize rootUp m = D at *
    have HPR := Lib.hid hpr
    have HSQ := Lib.hid hsq
    clear hpr hsq
    gi_wp2
    gi_loopw [3, 4] (fun pv dv wi => ∃ d : Nat, 2 ≤ d ∧ d ≤ D ∧ dv = .int .u64 (d : Int) ∧ pv = .bool (noDiv m d) ∧ wi = wr) (fun _ dv _ => D - (intOf dv).toNat)
    case atStart => exact ⟨2, by omega, hD2, rfl, by rw [noDiv_two], rfl⟩
    case round =>
      rename_i wi _
      obtain ⟨d, hd2, hdD, rfl, rfl, rfl⟩ := hrel
      have h20 : d < 20 := by omega
      have hdd : d * d < 400 := by
        have : d * d ≤ 19 * 19 := Nat.mul_le_mul (by omega) (by omega)
        omega
      have hle := HSQ.out d h20 hd2
      generalize hq : d * d = q at *
      have e1 : IntKind.u64.wrap ((d : Int) * (d : Int)) = (q : Int) := by rw [← hq, wrapN_mul]; unfold mulLo W64; rw [Nat.mod_eq_of_lt (by omega)]
      have HQ := Lib.hid hq
      clear hq
      have p0 : (0 : Int) ≤ (d : Int) := by omega
      have p1 : (1 : Int) ≤ (d : Int) := by omega
      by_cases hlt : d < D
      · have t1 : decide (q ≤ m) = true := decide_eq_true (hle.1 hlt)
        have hns := noDiv_succ m d hd2
        obtain ⟨r, hr⟩ : ∃ r, m % d = r := ⟨_, rfl⟩
        rw [hr] at hns
        have e2 : (m : Int) % (d : Int) = (r : Int) := by rw [← hr]; norm_cast
        have HR := Lib.hid hr
        clear hr
        by_cases hp : noDiv m d = true
        · rw [hp] at hns ⊢
          by_cases hr0 : r = 0
          · have hns' : noDiv m (d + 1) = false := by rw [hns, hr0]; rfl
            have HNS := Lib.hid hns'
            have e3 : ((r : Int) != 0) = false := by rw [hr0]; rfl
            have HR0 := Lib.hid hr0
            clear hns hns' hp hr0
            gi_wp2
            go_roundw
            case rel => exact ⟨d + 1, by omega, by omega, by go_num, by rw [HNS.out], trivial⟩
            case measure => simp [intOf]; omega
          · have hns' : noDiv m (d + 1) = true := by rw [hns]; simp [hr0]
            have HNS := Lib.hid hns'
            have e3 : ((r : Int) != 0) = true := by rw [bne_iff_ne]; omega
            clear hns hns' hp
            gi_wp2
            go_roundw
            case rel => exact ⟨d + 1, by omega, by omega, by go_num, by rw [HNS.out], trivial⟩
            case measure => simp [intOf]; omega
        · have hp' : noDiv m d = false := by simpa using hp
          have hns' : noDiv m (d + 1) = false := by rw [hns, hp']; rfl
          rw [hp']
          have HNS := Lib.hid hns'
          clear hns hns' hp hp'
          gi_wp2
          go_roundw
          case rel => exact ⟨d + 1, by omega, by omega, by go_num, by rw [HNS.out], trivial⟩
          case measure => simp [intOf]; omega
      · have t1 : decide (q ≤ m) = false := decide_eq_false (fun h => hlt (hle.2 h))
        obtain rfl : d = D := by omega
        by_cases hp : noDiv m d = true
        · obtain ⟨g1, g2⟩ := HPR.out.1 hp
          obtain ⟨fn, tmps, assign, body, hy, hR⟩ := hY (cntP m) wr hJ
          rw [g1] at hy
          rw [hp]
          clear hp
          have G2 := Lib.hid g2
          clear g1 g2
          gi_wp2
          refine hR.mono ?_
          rintro e W' (⟨rfl, hJ', hk⟩ | ⟨rfl, hJx'⟩)
          · have hl := hJN _ _ hJ'
            have h315 := cnt_last (m + 1) (by omega) (by rw [G2.out]; omega)
            gi_wp2
            go_roundw
            case rel => exact ⟨m + 1, by omega, h315, by go_num, by rw [G2.out]; exact hJ'⟩
            case measure => simp [intOf]; omega
          · gi_wp2
            refine bodyPost_ret (results_none rfl _ _ _) rfl ?_
            exact ⟨⟨_, rfl⟩, hJx'⟩
        · have hp' : noDiv m d = false := by simpa using hp
          have g2 := HPR.out.2 hp'
          rw [hp']
          have G2 := Lib.hid g2
          clear g2 hp hp'
          gi_wp2
          all_goals (refine ⟨fun _ h => (by cases h), ?_⟩; gi_wp2)
          have hl := hJN _ _ hJ
          have h315 := cnt_last (m + 1) (by omega) (by rw [G2.out]; omega)
          go_roundw
          case rel => exact ⟨m + 1, by omega, h315, by go_num, by rw [G2.out]; exact hJ⟩
          case measure => simp [intOf]; omega
end Go.Proofs.Ytolbhliepkcihaa.Sha
