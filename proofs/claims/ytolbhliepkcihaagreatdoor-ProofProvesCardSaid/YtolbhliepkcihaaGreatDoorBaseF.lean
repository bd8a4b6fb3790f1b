/- Joined by a program of this session (wip/pack.py) for this claim: QTBx0, QTBx1, Trust3, Codec, CodecStub. -/
import Derived.Test.YtolbhliepkcihaaGreatDoorProg
import Derived.Below
import Derived.Deep.Draws
import Derived.Deep.AppendLies
import Derived.Maps.AppendAt
import Derived.OwnWalk
import Derived.Laws.BytesArg
import Derived.Laws.MakeOwn
import Derived.Laws.OwnMore
import Derived.Deep.OwnRows
import Derived.Tactics
import Derived.Lib.ConvBytes
import Derived.Laws.Slices
import Derived.WalkKit
import Derived.KernelRfl
import Derived.RowKit3
import Derived.Deep.LoopGhost
import Derived.Deep.QuietTactic
import Derived.BigQuiet
import Derived.WideLaws
import Derived.Deep.DeepCutAuto
import Derived.Deep.CutBlock
import Derived.Deep.RegionHeld3
import Derived.Laws.Rows
import Derived.Lib.AppendStr
import Derived.ArgAppend
import Derived.Laws.IdiomCopy
import Derived.OrdersHeld
import Derived.Laws.BitsLemmas
import Derived.RowKit
import Derived.Test.YtolbhliepkcihaaGreatDoorBaseD
import Derived.Test.YtolbhliepkcihaaGreatDoorPWa
import Derived.Test.YtolbhliepkcihaaGreatDoorBaseC
section
namespace Go.Proofs.YtolbhliepkcihaaGreatDoor.QTB
open Go.RowKit YtolbhliepkcihaaGreatDoorW.PrintWords YtolbhliepkcihaaGreatDoorW.PrintLast YtolbhliepkcihaaGreatDoorW.PrintMore
attribute [local go_sem] max2_int min2_int max_two min_two max_three min_three max_four min_four   -- for this text's walks alone
set_option linter.unusedVariables false
set_option linter.unusedSimpArgs false
def errW : Option Int → Value
 | none => .nilIface
 | some c => .iface 0 (.int .i64 c)
theorem errW_none : errW none = .nilIface := rfl
theorem errW_some (c : Int) : errW (some c) = .iface 0 (.int .i64 c) := rfl
theorem info5 : (Tryz.prog.info? 5).map (fun i => (i.zero, i.size, i.bytes)) = some (some (.int .u8 0), 1, 1) := by kernel_rfl
end Go.Proofs.YtolbhliepkcihaaGreatDoor.QTB
end
section
namespace Go.Proofs.YtolbhliepkcihaaGreatDoor.QTB
open Go.RowKit YtolbhliepkcihaaGreatDoorW.PrintWords YtolbhliepkcihaaGreatDoorW.PrintLast YtolbhliepkcihaaGreatDoorW.PrintMore
attribute [local go_sem] max2_int min2_int max_two min_two max_three min_three max_four min_four   -- for this text's walks alone
set_option linter.unusedVariables false
set_option linter.unusedSimpArgs false
/-! ### codec_low: function 47 -/
def codec_low.l0 : Nat → Int → List Int → Int → Int → Option (ByteArray)
 | 0, _, _, _, _ => none
 | k + 1, x0, x5, x10, x11 => if x11 < x10 then (if 0 ≤ (wrap64 (8 * x11)) then (if 0 ≤ x11 then (if x11 < (x5.length : Int) then (codec_low.l0 k x0 (x5.set (x11 : Int).toNat ((shr .u64 x0 (wrap64 (8 * x11))) % 256)) x10 (wrap64 (x11 + 1))) else (none)) else (none)) else (none)) else (some (strOfNums x5))
def codec_low.f (k : Nat) (a0 : Int) (a1 : Int) : Option (ByteArray) := if 0 ≤ a1 then (if (a1 : Int).toNat ≤ 281474976710656 then ((some (List.replicate (a1 : Int).toNat 0 : List Int)).bind fun y101 => (codec_low.l0 k a0 y101 (y101.length : Int) 0)) else (none)) else (none)
set_option maxHeartbeats 8000000 in
set_option maxRecDepth 100000 in
theorem codec_low.calls (k : Nat) (a0 : Int) (a1 : Int) (r : ByteArray) (w : World) (h : codec_low.f k a0 a1 = some r) :
  Calls Tryz.prog 47 #[.int .u64 a0, .int .i64 a1] w fun e w' => e = .returned (.string r) ∧ Below w.heap.size w w' := by
 have HB := qf (Below.refl w.heap.size w); have H : (if 0 ≤ a1 then (if (a1 : Int).toNat ≤ 281474976710656 then ((some (List.replicate (a1 : Int).toNat 0 : List Int)).bind fun y101 => (codec_low.l0 k a0 y101 (y101.length : Int) 0)) else (none)) else (none)) = some r := h; clear h
 by_cases c3 : 0 ≤ a1
 ·rw [if_pos c3] at H; have c3b0 := eq_true c3; have c3b1 := qj c3; clear c3
  by_cases c4 : (a1 : Int).toNat ≤ 281474976710656
  ·rw [if_pos c4] at H; have c4b0 := eq_true c4; have c4b1 := qj c4; clear c4
   obtain ⟨y101, hy101⟩ : ∃ y_ : List Int, y_ = (List.replicate (a1 : Int).toNat 0) := ⟨_, rfl⟩
   replace H : (codec_low.l0 k a0 y101 (y101.length : Int) 0) = some r := by first | (rw [hy101]; with_reducible exact H) | (have H2_ := (qv _ _).symm.trans H; rw [hy101]; with_reducible exact H2_) | (have H2_ := (qv _ _).symm.trans H; with_reducible exact H2_) | with_reducible exact H | (rw [hy101]; exact H) | exact H
   have Ny101 := qf hy101; clear hy101; have H' := qf H; clear H
   go_enter Tryz.func47, Tryz.ntmps47
   go_wp2_with (first | ((with_reducible refine gate_dst (N := 8) rfl ?_); refine Kd.R_make (Kd.int .u8) _ 5 rfl (N := 8) rfl 74 _ _ rfl a1 rfl rfl Tryz.underlying74 (.int .u8 0) 1 info5 rfl (by decide) (by omega) 0 (ok := fun _ => True) (okp := fun _ => True) rfl (fun _ hk => hk) trivial (qe (by with_reducible assumption)) (Nat.le_trans (Nat.mul_le_mul_right _ (qe (by with_reducible assumption) : a1.toNat ≤ 281474976710656)) (by omega)) (Below.refl _ _) (Nat.le_refl _) ?_; intro v102 w5 ho6 hb hg_ hnew_; clear hg_ hnew_; (first | rw [← Ny101.out] at ho6 | (simp only [Int.reduceToNat] at ho6; rw [← Ny101.out] at ho6)); have n0_ := qf (Kd.R_lower ho6 (below_size (by repeat (first | (with_reducible first | exact HB.out | apply qa | apply qb | apply qc) | exact HB.out)))); have n1_ := qf (below_step (by repeat (first | (with_reducible first | exact HB.out | apply qa | apply qb | apply qc) | exact HB.out)) hb); clear HB; have HO103 := n0_; have HB := n1_; clear n0_ n1_ hb ho6; obtain ⟨Ao7, co7, eo7⟩ := Kd.R_slice HO103.out; subst eo7))
   go_loopg [11] k (fun kq v11 w' => ∃ (x5_1 : List Int) (x11_1 : Int), v11 = .int .i64 x11_1 ∧ Aside0 (codec_low.l0 kq a0 x5_1 (y101.length : Int) x11_1 = some r) ∧ Aside0 (kq ≤ k) ∧ Aside0 (Kd.R (Kd.int .u8) 5 w' w.heap.size (fun _ => True) (.slice Ao7 y101.length co7) x5_1) ∧ Aside0 (Below w.heap.size w w'))
   case atStart => exact ⟨(y101), (0), (by first | rfl | (simp; done) | (simp [*]; done)), H', ⟨Nat.le_refl _⟩, ⟨by (with_reducible repeat (first | apply Kd.R_alloc | apply Kd.R_drewN | apply Kd.R_drew)); exact HO103.out⟩, ⟨by repeat (first | (with_reducible first | exact HB.out | apply qa | apply qb | apply qc) | exact HB.out)⟩⟩
   case round =>
    clear H'; (try clear p2); (try clear c3); (try clear c3b0); (try clear c3b1); (try clear c4); (try clear c4b0); (try clear c4b1); obtain ⟨x5_1, x11_1, rfl, HA, HK1, HO_5, HB⟩ := hrel; have hl5_1 := (Kd.R_reads' HO_5.out).1; rw [hl5_1] at HO_5
    (try simp only [hl5_1])
    cases gk with
    | zero => exact absurd HA.out (by simp [codec_low.l0])
    | succ k1 =>
     have H := HA.out; clear HA; simp only [codec_low.l0] at H
     by_cases c8 : x11_1 < (y101.length : Int)
     ·rw [if_pos c8] at H; have c8b0 := qj c8; clear c8
      obtain ⟨ji9, hji9⟩ : ∃ j_ : Int, (wrap64 (8 * x11_1)) = j_ := ⟨_, rfl⟩
      replace H : (if 0 ≤ (ji9) then (if 0 ≤ x11_1 then (if x11_1 < (x5_1.length : Int) then (codec_low.l0 k1 a0 (x5_1.set (x11_1 : Int).toNat ((shr .u64 a0 (ji9)) % 256)) (y101.length : Int) (wrap64 (x11_1 + 1))) else (none)) else (none)) else (none)) = some r := by first | (rw [hji9] at H; exact H) | (simp only [hji9] at H ⊢; exact H)
      have hji9w : (IntKind.i64.wrap (8 * x11_1)) = ji9 := (i64_w _).trans hji9
      by_cases c10 : 0 ≤ (ji9)
      ·rw [if_pos c10] at H; have c10b0 := eq_true c10; have c10b1 := qj c10; clear c10
       obtain ⟨ji11, hji11⟩ : ∃ j_ : Int, (shr .u64 a0 (ji9)) = j_ := ⟨_, rfl⟩
       replace H : (if 0 ≤ x11_1 then (if x11_1 < (x5_1.length : Int) then (codec_low.l0 k1 a0 (x5_1.set (x11_1 : Int).toNat ((ji11) % 256)) (y101.length : Int) (wrap64 (x11_1 + 1))) else (none)) else (none)) = some r := by first | (rw [hji11] at H; exact H) | (simp only [hji11] at H ⊢; exact H)
       have hji11_ : (a0 / 2 ^ min (ji9).toNat 64) = ji11 := hji11; have hji11z : (ji9) ≤ 64 → (a0 / 2 ^ (ji9).toNat) = ji11 := shr_small hji11
       by_cases c12 : 0 ≤ x11_1
       ·rw [if_pos c12] at H; have c12b0 := qj c12; clear c12
        by_cases c13 : x11_1 < (x5_1.length : Int)
        ·rw [if_pos c13] at H; have c13b0 := qj c13; clear c13
         obtain ⟨y104, hy104⟩ : ∃ y_ : List Int, y_ = (x5_1.set (x11_1 : Int).toNat ((ji11) % 256)) := ⟨_, rfl⟩
         replace H : (codec_low.l0 k1 a0 y104 (y101.length : Int) (wrap64 (x11_1 + 1))) = some r := by first | (rw [hy104]; with_reducible exact H) | (have H2_ := (qv _ _).symm.trans H; rw [hy104]; with_reducible exact H2_) | (have H2_ := (qv _ _).symm.trans H; with_reducible exact H2_) | with_reducible exact H | (rw [hy104]; exact H) | exact H
         have Ny104 := qf hy104; clear hy104; have H' := qf H; clear H; have p14 : 0 ≤ (x11_1 : Int) := qe (by with_reducible assumption); have q14 : (x11_1 : Int) < ((x5_1.length : Int) : Int) := qe (by with_reducible assumption); obtain ⟨go14, co14, eo14, gb14, gl14, cl14, HG14⟩ := Kd.R_form HO_5.out (by omega)
         (first | cases eo14 | (injection eo14 with ea_ en_ ec_; (first | subst ea_ | (injection ea_ with ea_; subst ea_)); subst ec_; clear en_))
         have GB14 := qf gb14; have GG14 := qf HG14; clear gb14 gl14 HG14; obtain ⟨hx14_0, hf14_0⟩ := Kd.R_celln 0 HO_5.out (x11_1 : Int) p14 q14; replace p14 := eq_true p14; replace q14 := eq_true q14; have HP15 := Kd.R_putg HO_5.out (x11_1 : Int) ((ji11) % 256)
         go_wp2_with (first | ((with_reducible refine gate_store (t := 5) (p := 21) rfl ?_); refine store_event (t := 5) (p := 21) (v := ?vo_w16) (w1 := (wr.setCell ⟨go14, (x11_1 : Int).toNat, none⟩ (.int .u8 ((ji11) % 256)))) ?hg ?ho ?hn ?hr ?_; (case ho => rfl); (case hg => rfl); (case hn => rfl); (case hr => first | (go_simp; done) | (go_simp; rfl)); intro w16 hw; have hg : wr.grownBy w16 (some go14) := (by rw [hw]; exact HP15.2); have hp_ : Kd.R (Kd.int .u8) 5 w16 w.heap.size (fun _ => True) (.slice (some ⟨go14, 0, none⟩) x5_1.length co7) y104 := (by rw [hw, Ny104.out]; exact HP15.1); clear HP15; have n0_ := qf (hp_); have n1_ := qf ((by rw [hw]; exact qg (HB.out) GB14.out : Below w.heap.size w w16)); clear HO_5 HB; have HO_5 := n0_; have HB := n1_; clear n0_ n1_ hg hw hp_))
         (try simp only [← hl5_1])
         go_roundg k1
         case measure => have := HK1.out; omega
         case rel => exact ⟨(y104), (wrap64 (x11_1 + 1)), (by first | rfl | (simp; done) | (simp [*]; done)), H', ⟨by have := HK1.out; omega⟩, ⟨by (try simp only [hl5_1]); (with_reducible repeat (first | apply Kd.R_alloc | apply Kd.R_drewN | apply Kd.R_drew)); exact HO_5.out⟩, ⟨by repeat (first | (with_reducible first | exact HB.out | apply qa | apply qb | apply qc) | exact HB.out)⟩⟩
        ·rw [if_neg c13] at H; exact absurd H (by simp)
       ·rw [if_neg c12] at H; exact absurd H (by simp)
      ·rw [if_neg c10] at H; exact absurd H (by simp)
     ·rw [if_neg c8] at H; have c8b0 := decide_eq_false c8; clear c8
      (try simp only [hl5_1] at c8b0)
      obtain rfl := Option.some.inj H; have hcv17 := own_string (P := Tryz.prog) Tryz.underlying74 Tryz.underlying5 Tryz.underlying9 (Kd.own_of_R HO_5.out)
      (try simp only [hl5_1] at hcv17)
      go_wp2; go_ret; exact ⟨by first | rfl | (simp [errW_none, errW_some] <;> rfl) | (simp [*, errW_none, errW_some] <;> rfl), by repeat (first | (with_reducible first | exact HB.out | apply qa | apply qb | apply qc) | exact HB.out)⟩
  ·rw [if_neg c4] at H; exact absurd H (by simp)
 ·rw [if_neg c3] at H; exact absurd H (by simp)
/-! ### codec_Number: function 36 -/
def codec_Number.f (k : Nat) (a0 : Int) : Option (ByteArray) := (codec_low.f k a0 8).bind fun t105 => (some t105)
set_option maxHeartbeats 8000000 in
set_option maxRecDepth 100000 in
theorem codec_Number.calls (k : Nat) (a0 : Int) (r : ByteArray) (w : World) (h : codec_Number.f k a0 = some r) :
  Calls Tryz.prog 36 #[.int .u64 a0] w fun e w' => e = .returned (.string r) ∧ Below w.heap.size w w' := by
 have HB := qf (Below.refl w.heap.size w); have H : ((codec_low.f k a0 8).bind fun t105 => (some t105)) = some r := h; clear h; replace H := qi H; obtain ⟨t105, A20, H⟩ := H
 (try dsimp only at H)
 have A2 := qf A20; clear A20; obtain rfl := Option.some.inj H
 go_enter Tryz.func36, Tryz.ntmps36
 go_wp2_with (first | ((with_reducible refine gate_callee (f := 47) rfl ?_); refine goesL_ (some 4) rfl rfl Tryz.func47 (by kernel_rfl) rfl #[.int .u64 a0, .int .i64 8] rfl (by (try simp only [List.map_toArray, List.map_cons, List.map_nil]); first | done | rfl | (simp only [List.length_drop, qw]; rfl)) ?_; (with_reducible refine (codec_low.calls k a0 8 t105 _ A2.out).mono ?_); rintro e w3 ⟨rfl, hb⟩; refine ⟨_, rfl, ?_⟩; have n0_ := qf (below_step (by repeat (first | (with_reducible first | exact HB.out | apply qa | apply qb | apply qc) | exact HB.out)) hb); clear HB; have HB := n0_; clear n0_; (try clear hb); (try clear hi)))
 go_ret; exact ⟨by first | rfl | (simp [errW_none, errW_some] <;> rfl) | (simp [*, errW_none, errW_some] <;> rfl), by repeat (first | (with_reducible first | exact HB.out | apply qa | apply qb | apply qc) | exact HB.out)⟩
/-! ### codec_Text: function 74 -/
def codec_Text.f (k : Nat) (a0 : ByteArray) : Option (ByteArray × Int) := if (a0.size : Int) > 4096 then (some ((⟨#[]⟩ : ByteArray), 4)) else ((codec_low.f k (IntKind.u64.wrap ((a0.size : Int))) 2).bind fun t106 => (if t106.size + a0.size ≤ 9223372036854775807 then (some (t106 ++ a0, 0)) else (none)))
set_option maxHeartbeats 8000000 in
set_option maxRecDepth 100000 in
theorem codec_Text.calls (k : Nat) (a0 : ByteArray) (r1 : ByteArray) (r2 : Int) (w : World) (h : codec_Text.f k a0 = some (r1, r2)) :
  Calls Tryz.prog 74 #[.string a0] w fun e w' => e = .returned (.tuple #[.string r1, .int .i64 r2]) ∧ Below w.heap.size w w' := by
 have HB := qf (Below.refl w.heap.size w); have H : (if (a0.size : Int) > 4096 then (some ((⟨#[]⟩ : ByteArray), 4)) else ((codec_low.f k (IntKind.u64.wrap ((a0.size : Int))) 2).bind fun t106 => (if t106.size + a0.size ≤ 9223372036854775807 then (some (t106 ++ a0, 0)) else (none)))) = some (r1, r2) := h; clear h
 by_cases c2 : (a0.size : Int) > 4096
 ·rw [if_pos c2] at H; have c2b0 := qj c2; have c2b1 : decide (4096 < a0.size) = true := qj (by omega); clear c2; simp only [Option.some.injEq, Prod.mk.injEq] at H; obtain ⟨rfl, rfl⟩ := H
  go_enter Tryz.func74, Tryz.ntmps74
  go_wp2
  go_ret2
  exact ⟨by first | rfl | (simp [errW_none, errW_some] <;> rfl) | (simp [*, errW_none, errW_some] <;> rfl), by repeat (first | (with_reducible first | exact HB.out | apply qa | apply qb | apply qc) | exact HB.out)⟩
 ·rw [if_neg c2] at H; have c2b0 := decide_eq_false c2; have c2b1 : decide (4096 < a0.size) = false := decide_eq_false (by omega); clear c2; replace H := qi H; obtain ⟨t106, A30, H⟩ := H
  (try dsimp only at H)
  have A3 := qf A30; clear A30
  have hw_ : IntKind.u64.wrap ((a0.size : Int)) = (a0.size : Int) := by have h_ := of_decide_eq_false c2b1; rw [IntKind.wrap_u64]; omega
  rw [hw_] at A3; clear hw_
  by_cases c4 : t106.size + a0.size ≤ 9223372036854775807
  ·rw [if_pos c4] at H; have c4b0 := eq_true c4; have c4b1 := qj c4
   try have c4b2 : (9223372036854775807 < t106.size + a0.size) = False := eq_false (Nat.not_lt.2 c4)
   simp only [Option.some.injEq, Prod.mk.injEq] at H; obtain ⟨rfl, rfl⟩ := H
   go_enter Tryz.func74, Tryz.ntmps74
   go_wp2_with (first | ((with_reducible refine gate_callee (f := 47) rfl ?_); refine goesL_ (some 10) rfl rfl Tryz.func47 (by kernel_rfl) rfl #[.int .u64 (a0.size : Int), .int .i64 2] rfl (by (try simp only [List.map_toArray, List.map_cons, List.map_nil]); first | done | rfl | (simp only [List.length_drop, qw]; rfl)) ?_; (with_reducible refine (codec_low.calls k (a0.size : Int) 2 t106 _ A3.out).mono ?_); rintro e w5 ⟨rfl, hb⟩; refine ⟨_, rfl, ?_⟩; have n0_ := qf (below_step (by repeat (first | (with_reducible first | exact HB.out | apply qa | apply qb | apply qc) | exact HB.out)) hb); clear HB; have HB := n0_; clear n0_; (try clear hb); (try clear hi)))
   go_ret2
   exact ⟨by first | rfl | (simp [errW_none, errW_some] <;> rfl) | (simp [*, errW_none, errW_some] <;> rfl), by repeat (first | (with_reducible first | exact HB.out | apply qa | apply qb | apply qc) | exact HB.out)⟩
  ·rw [if_neg c4] at H; exact absurd H (by simp)
/-! ### saltusref02_Low: function 64 -/
def saltusref02_Low.l0 : Nat → Int → Int → ByteArray → Int → Option (ByteArray)
 | 0, _, _, _, _ => none
 | k + 1, x0, x1, x5, x6 => if x6 < x1 then ((some (([(Int.tmod x0 256) % 256] : List Int) : List Int)).bind fun y107 => (if x5.size + (strOfNums y107).size ≤ 9223372036854775807 then (saltusref02_Low.l0 k (IntKind.u64.wrap (Int.tdiv x0 256)) x1 (x5 ++ (strOfNums y107)) (wrap64 (x6 + 1))) else (none))) else (some x5)
def saltusref02_Low.f (k : Nat) (a0 : Int) (a1 : Int) : Option (ByteArray) := saltusref02_Low.l0 k a0 a1 (⟨#[]⟩ : ByteArray) 0
set_option maxHeartbeats 8000000 in
set_option maxRecDepth 100000 in
theorem saltusref02_Low.calls (k : Nat) (a0 : Int) (a1 : Int) (r : ByteArray) (w : World) (h : saltusref02_Low.f k a0 a1 = some r) :
  Calls Tryz.prog 64 #[.int .u64 a0, .int .i64 a1] w fun e w' => e = .returned (.string r) ∧ Below w.heap.size w w' := by
 have HB := qf (Below.refl w.heap.size w); have H : (saltusref02_Low.l0 k a0 a1 (⟨#[]⟩ : ByteArray) 0) = some r := h; clear h; have H' := qf H; clear H
 go_enter Tryz.func64, Tryz.ntmps64
 go_wp2
 go_loopg [0, 5, 6] k (fun kq v0 v5 v6 w' => ∃ (x0_1 : Int) (x5_1 : ByteArray) (x6_1 : Int), v0 = .int .u64 x0_1 ∧ v5 = .string x5_1 ∧ v6 = .int .i64 x6_1 ∧ Aside0 (saltusref02_Low.l0 kq x0_1 a1 x5_1 x6_1 = some r) ∧ Aside0 (kq ≤ k) ∧ Aside0 (Below w.heap.size w w'))
 case atStart => exact ⟨(a0), ((⟨#[]⟩ : ByteArray)), (0), (by first | rfl | (simp; done) | (simp [*]; done)), (by first | rfl | (simp; done) | (simp [*]; done)), (by first | rfl | (simp; done) | (simp [*]; done)), H', ⟨Nat.le_refl _⟩, ⟨by repeat (first | (with_reducible first | exact HB.out | apply qa | apply qb | apply qc) | exact HB.out)⟩⟩
 case round =>
  clear H'; (try clear p2); obtain ⟨x0_1, x5_1, x6_1, rfl, rfl, rfl, HA, HK1, HB⟩ := hrel
  cases gk with
  | zero => exact absurd HA.out (by simp [saltusref02_Low.l0])
  | succ k1 =>
   have H := HA.out; clear HA; simp only [saltusref02_Low.l0] at H
   by_cases c3 : x6_1 < a1
   ·rw [if_pos c3] at H; have c3b0 := qj c3; clear c3
    obtain ⟨y107, hy107⟩ : ∃ y_ : List Int, y_ = (([(Int.tmod x0_1 256) % 256] : List Int)) := ⟨_, rfl⟩
    replace H : (if x5_1.size + (strOfNums y107).size ≤ 9223372036854775807 then (saltusref02_Low.l0 k1 (IntKind.u64.wrap (Int.tdiv x0_1 256)) a1 (x5_1 ++ (strOfNums y107)) (wrap64 (x6_1 + 1))) else (none)) = some r := by first | (rw [hy107]; with_reducible exact H) | (have H2_ := (qv _ _).symm.trans H; rw [hy107]; with_reducible exact H2_) | (have H2_ := (qv _ _).symm.trans H; with_reducible exact H2_) | with_reducible exact H | (rw [hy107]; exact H) | exact H
    have Ny107 := qf hy107; clear hy107
    by_cases c4 : x5_1.size + (strOfNums y107).size ≤ 9223372036854775807
    ·rw [if_pos c4] at H; have c4b0 := eq_true c4; have c4b1 := qj c4
     try have c4b2 : (9223372036854775807 < x5_1.size + (strOfNums y107).size) = False := eq_false (Nat.not_lt.2 c4)
     have H' := qf H; clear H
     go_wp2_with (first | ((with_reducible refine gate_dst (N := 16) rfl ?_); refine Kd.R_lit (Kd.int .u8) _ 5 ?hg (N := 16) ?hd (xs := ([(Int.tmod x0_1 256) % 256] : List Int)) (inner := [.int .u8 ((Int.tmod x0_1 256) % 256)]) (ok := fun _ => True) (okp := fun _ => True) ?hr ?hp (fun _ hk => hk) trivial (Below.refl _ _) (Nat.le_refl _) (by simp) ?_; (case hd => rfl); (case hg => rfl); (case hr => first | (go_simp; done) | (go_simp; rfl)); (case hp => exact (Reps.one (show Kd.M (Kd.int .u8) _ _ _ ((Int.tmod x0_1 256) % 256) [.int .u8 ((Int.tmod x0_1 256) % 256)] from rfl) (Reps.none _ _))); intro v108 w5 ho6 hb hg_ hnew_; clear hg_ hnew_; (first | rw [← Ny107.out] at ho6 | (simp only [Int.reduceToNat] at ho6; rw [← Ny107.out] at ho6)); have n0_ := qf (Kd.R_lower ho6 (below_size (by repeat (first | (with_reducible first | exact HB.out | apply qa | apply qb | apply qc) | exact HB.out)))); have n1_ := qf (below_step (by repeat (first | (with_reducible first | exact HB.out | apply qa | apply qb | apply qc) | exact HB.out)) hb); clear HB; have HO109 := n0_; have HB := n1_; clear n0_ n1_ hb ho6; have hcv7 := own_string (P := Tryz.prog) Tryz.underlying74 Tryz.underlying5 Tryz.underlying9 (Kd.own_of_R HO109.out)))
     go_roundg k1
     case measure => have := HK1.out; omega
     case rel => exact ⟨(IntKind.u64.wrap (Int.tdiv x0_1 256)), (x5_1 ++ (strOfNums y107)), (wrap64 (x6_1 + 1)), (by first | rfl | (simp; done) | (simp [*]; done)), (by first | rfl | (simp; done) | (simp [*]; done)), (by first | rfl | (simp; done) | (simp [*]; done)), H', ⟨by have := HK1.out; omega⟩, ⟨by repeat (first | (with_reducible first | exact HB.out | apply qa | apply qb | apply qc) | exact HB.out)⟩⟩
    ·rw [if_neg c4] at H; exact absurd H (by simp)
   ·rw [if_neg c3] at H; have c3b0 := decide_eq_false c3; clear c3; obtain rfl := Option.some.inj H; go_wp2; go_ret; exact ⟨by first | rfl | (simp [errW_none, errW_some] <;> rfl) | (simp [*, errW_none, errW_some] <;> rfl), by repeat (first | (with_reducible first | exact HB.out | apply qa | apply qb | apply qc) | exact HB.out)⟩
/-! ### saltusref02_One: function 86 -/
def saltusref02_One.f (k : Nat) (a0_0 : Bool) (a0_1 : Int) (a0_2 : ByteArray) : Option (ByteArray) := if a0_0 = true then ((saltusref02_Low.f k (IntKind.u64.wrap ((a0_2.size : Int))) 2).bind fun t111 => (if t111.size + a0_2.size ≤ 9223372036854775807 then (some (t111 ++ a0_2)) else (none))) else ((saltusref02_Low.f k a0_1 8).bind fun t112 => (some t112))
def saltusref02_One.T2 : Bool × List (List Nat × List Nat) := (true, [([], []), ([0], [0]), ([1], [1]), ([2], [2]), ([3], [3]), ([], []), ([5], [5]), ([4, 6], [4, 6]), ([7, 4, 0, 1, 2, 3, 4, 5, 6, 7], [7])])
def saltusref02_One.B2 : List Nat := [0, 1, 3, 7, 15, 0, 32, 127, 255]
theorem saltusref02_One.tab2 : rtab .any (opsOf Tryz.f86 2) = saltusref02_One.T2 := by kernel_rfl
theorem saltusref02_One.bits2 : waitsOk saltusref02_One.T2.2 saltusref02_One.B2 = true := by kernel_rfl
set_option maxHeartbeats 8000000 in
set_option maxRecDepth 100000 in
theorem saltusref02_One.calls (k : Nat) (a0_0 : Bool) (a0_1 : Int) (a0_2 : ByteArray) (r : ByteArray) (w : World) (h : saltusref02_One.f k a0_0 a0_1 a0_2 = some r) :
  Calls Tryz.prog 86 #[.agg #[.bool a0_0, .int .u64 a0_1, .string a0_2]] w fun e w' => e = .returned (.string r) ∧ Below w.heap.size w w' := by
 have hu84 := Tryz.underlying84; have HB := qf (Below.refl w.heap.size w); have H : (if a0_0 = true then ((saltusref02_Low.f k (IntKind.u64.wrap ((a0_2.size : Int))) 2).bind fun t111 => (if t111.size + a0_2.size ≤ 9223372036854775807 then (some (t111 ++ a0_2)) else (none))) else ((saltusref02_Low.f k a0_1 8).bind fun t112 => (some t112))) = some r := h; clear h
 by_cases c2 : a0_0 = true
 ·subst c2
  have H1 : ((saltusref02_Low.f k (IntKind.u64.wrap ((a0_2.size : Int))) 2).bind fun t111 => (if t111.size + a0_2.size ≤ 9223372036854775807 then (some (t111 ++ a0_2)) else (none))) = some r := by rw [if_pos rfl] at H; exact H
  clear H; have H := H1; clear H1; replace H := qi H; obtain ⟨t111, A30, H⟩ := H
  (try dsimp only at H)
  have A3 := qf A30; clear A30
  by_cases c4 : t111.size + a0_2.size ≤ 9223372036854775807
  ·rw [if_pos c4] at H; have c4b0 := eq_true c4; have c4b1 := qj c4
   try have c4b2 : (9223372036854775807 < t111.size + a0_2.size) = False := eq_false (Nat.not_lt.2 c4)
   obtain rfl := Option.some.inj H
   go_enter Tryz.func86, Tryz.ntmps86
   try go_wp2_with (first | ((with_reducible refine gate_dst (N := 1) rfl ?_); refine box_event ?hg (N := 1) ?hd (cs := #[.bool true, .int .u64 a0_1, .string a0_2]) (t := 84) ?hr ?_; (case hd => rfl); (case hg => rfl); (case hr => first | (go_simp; done) | (go_simp; rfl)); intro gb110 hg w5 hbox hb; have n0_ := qf (below_step (by repeat (first | (with_reducible first | exact HB.out | apply qa | apply qb | apply qc) | exact HB.out)) hb); have n1_ := qf (hbox); have n2_ := qf ((by rw [hg]; exact (below_size (by repeat (first | (with_reducible first | exact HB.out | apply qa | apply qb | apply qc) | exact HB.out))) : w.heap.size ≤ gb110)); have n3_ := qf ((by rw [hg]; exact (below_size (by repeat (first | (with_reducible first | exact HB.out | apply qa | apply qb | apply qc) | exact HB.out))) : w.heap.size ≤ gb110)); clear HB; have HB := n0_; have BK110 := n1_; have GW110 := n2_; have GE110 := n3_; clear n0_ n1_ n2_ n3_ hb hbox hg; have hcz6_0 : w5.cell? ⟨gb110, 0, none⟩ = some (.bool true) := (blk_cell BK110.out 0).trans rfl; have hcz6_1 : w5.cell? ⟨gb110, 1, none⟩ = some (.int .u64 a0_1) := (blk_cell BK110.out 1).trans rfl; have hcz6_2 : w5.cell? ⟨gb110, 2, none⟩ = some (.string a0_2) := (blk_cell BK110.out 2).trans rfl; have hfz6_0 := blk_frozen BK110.out 0; have hfz6_1 := blk_frozen BK110.out 1; have hfz6_2 := blk_frozen BK110.out 2))
   have n0_ := qf (blk_drew BK110.out); have n1_ := qf (qc HB.out); clear BK110 HB; have BK110 := n0_; have HB := n1_; clear n0_ n1_; refine start_ (n := 9) (S := fun w' => w'.cell? ⟨gb110, 0, none⟩ = some (.bool true) ∧ w'.cell? ⟨gb110, 1, none⟩ = some (.int .u64 a0_1) ∧ w'.cell? ⟨gb110, 2, none⟩ = some (.string a0_2)) (ds := []) (bm 9 0) (by kernel_rfl) rfl rfl ⟨(blk_cell BK110.out 0).trans rfl, (blk_cell BK110.out 1).trans rfl, (blk_cell BK110.out 2).trans rfl⟩ (fun hHeld => ?_); refine with_tabW saltusref02_One.tab2 saltusref02_One.bits2 (fun HT_ HW_ => ?_); generalize w5.drew = w7 at BK110 HB hHeld ⊢; refine qz 0 5 ?_ (bm 9 1) rfl rfl HT_ (by kernel_rfl) (fun _ _ _ h => h) (by rfl) ?_ ?_ ?_ ?_; rotate_left; (intro w'; go_simp; with_reducible rfl); rotate_left; (simp only [Act.put, qs, qt, qu, i64_w, i32_w]; rfl); refine qz 5 10 ?_ (bm 9 33) rfl rfl HT_ (by kernel_rfl) (fun _ _ _ h => h) (by rfl) ?_ ?_ ?_ ?_; rotate_left; (intro w'; go_simp; with_reducible rfl); rotate_left; (simp only [Act.put, qs, qt, qu, i64_w, i32_w]; rfl); refine take_ (i := 1) (N := some 6) (v := ?_) (a' := ?_) (bm 9 35) rfl rfl (take_ofW HT_.out HW_.out (by kernel_rfl)) (fun _ _ _ h => h) (Or.inl ⟨by rfl, ?_⟩) hHeld ?_ ?_; rotate_left
   ·rintro w' ⟨s0, s1, s2⟩
    go_simp; with_reducible rfl
   rotate_left; (simp only [Act.put, qs, qt, qu, i64_w, i32_w]; rfl); refine qz 2 7 ?_ (bm 9 39) rfl rfl HT_ (by kernel_rfl) (fun _ _ _ h => h) (by rfl) ?_ ?_ ?_ ?_; rotate_left; (intro w'; go_simp; with_reducible rfl); rotate_left; (simp only [Act.put, qs, qt, qu, i64_w, i32_w]; rfl); refine qz 3 8 ?_ (bm 9 47) rfl rfl HT_ (by kernel_rfl) (fun _ _ _ h => h) (by rfl) ?_ ?_ ?_ ?_; rotate_left; (intro w'; go_simp; with_reducible rfl); rotate_left; (simp only [Act.put, qs, qt, qu, i64_w, i32_w]; rfl); refine take_ (i := 6) (N := some 11) (v := ?_) (a' := ?_) (bm 9 111) rfl rfl (take_ofW HT_.out HW_.out (by kernel_rfl)) (fun _ _ _ h => h) (Or.inl ⟨by rfl, ?_⟩) hHeld ?_ ?_; rotate_left
   ·rintro w' ⟨s0, s1, s2⟩
    go_simp; with_reducible rfl
   rotate_left; (simp only [Act.put, qs, qt, qu, i64_w, i32_w]; rfl); refine one_ (i := 4) (N := some 9) (bm 9 127) rfl rfl (one_of HT_.out (by kernel_rfl)) (by decide) (fun K hK => ?_); refine goes_ Tryz.func64 (by kernel_rfl) rfl #[.int .u64 (IntKind.u64.wrap ((a0_2.size : Int))), .int .i64 2] (by rfl) rfl rfl (by (try simp only [List.map_toArray, List.map_cons, List.map_nil]); first | done | rfl | (simp only [List.length_drop, qw]; rfl)) ?_
   with_reducible refine (saltusref02_Low.calls k (IntKind.u64.wrap ((a0_2.size : Int))) 2 t111 _ A3.out).mono ?_
   rintro e w8 ⟨rfl, hb⟩
   refine ⟨_, rfl, ?_⟩; have n0_ := qf (blk_below (g := gb110) (o := .cells #[.bool true, .int .u64 a0_1, .string a0_2] 84 (0, 0)) (by (with_reducible repeat (first | refine blk_drewN ?_ _ | refine blk_drew ?_ | refine qh ?_ _)); exact BK110.out) hb); have n1_ := qf (below_step (by repeat (first | (with_reducible first | exact HB.out | apply qa | apply qb | apply qc | refine qg ?_ GE110.out) | exact HB.out)) hb); clear BK110 HB; have BK110 := n0_; have HB := n1_; clear n0_ n1_
   (try clear hb)
   (try clear hb2)
   (try clear hk)
   (try clear hi)
   refine hK.out _ _ ⟨(blk_cell BK110.out 0).trans rfl, (blk_cell BK110.out 1).trans rfl, (blk_cell BK110.out 2).trans rfl⟩ (fun hHeld => ?_); clear hK K; refine norm_ (a' := ?_) ?_ ?_; rotate_left
   ·show Act.put _ (some 9) _ = _
    simp only [Act.put, qs, qt, qu, i64_w, i32_w]; rfl
   refine qz 7 12 ?_ (bm 9 255) rfl rfl HT_ (by kernel_rfl) (fun _ _ _ h => h) (by rfl) ?_ ?_ ?_ ?_; rotate_left; (intro w'; go_simp; with_reducible rfl); rotate_left; (simp only [Act.put, qs, qt, qu, i64_w, i32_w]; rfl); refine qz 8 2 ?_ (bm 9 511) rfl rfl HT_ (by kernel_rfl) (fun _ _ _ h => h) (by rfl) ?_ ?_ ?_ ?_; rotate_left; (intro w'; go_simp; with_reducible rfl); rotate_left; (simp only [Act.put, qs, qt, qu, i64_w, i32_w]; rfl); refine done_ (done_of HT_.out (by kernel_rfl)) ?_
   try go_wp2
   go_ret; exact ⟨by first | rfl | (simp [errW_none, errW_some] <;> rfl) | (simp [*, errW_none, errW_some] <;> rfl), by repeat (first | (with_reducible first | exact HB.out | apply qa | apply qb | apply qc | refine qg ?_ GE110.out) | exact HB.out)⟩
  ·rw [if_neg c4] at H; exact absurd H (by simp)
 ·replace c2 := Bool.eq_false_iff.mpr c2; subst c2
  have H1 : ((saltusref02_Low.f k a0_1 8).bind fun t112 => (some t112)) = some r := by rw [if_neg (show ¬ (false = true) by decide)] at H; exact H
  clear H; have H := H1; clear H1; replace H := qi H; obtain ⟨t112, A90, H⟩ := H
  (try dsimp only at H)
  have A9 := qf A90; clear A90; obtain rfl := Option.some.inj H
  go_enter Tryz.func86, Tryz.ntmps86
  go_wp2_with (first | ((with_reducible refine gate_dst (N := 1) rfl ?_); refine box_event ?hg (N := 1) ?hd (cs := #[.bool false, .int .u64 a0_1, .string a0_2]) (t := 84) ?hr ?_; (case hd => rfl); (case hg => rfl); (case hr => first | (go_simp; done) | (go_simp; rfl)); intro gb110 hg w10 hbox hb; have n0_ := qf (below_step (by repeat (first | (with_reducible first | exact HB.out | apply qa | apply qb | apply qc) | exact HB.out)) hb); have n1_ := qf (hbox); have n2_ := qf ((by rw [hg]; exact (below_size (by repeat (first | (with_reducible first | exact HB.out | apply qa | apply qb | apply qc) | exact HB.out))) : w.heap.size ≤ gb110)); have n3_ := qf ((by rw [hg]; exact (below_size (by repeat (first | (with_reducible first | exact HB.out | apply qa | apply qb | apply qc) | exact HB.out))) : w.heap.size ≤ gb110)); clear HB; have HB := n0_; have BK110 := n1_; have GW110 := n2_; have GE110 := n3_; clear n0_ n1_ n2_ n3_ hb hbox hg; have hcz11_0 : w10.cell? ⟨gb110, 0, none⟩ = some (.bool false) := (blk_cell BK110.out 0).trans rfl; have hcz11_1 : w10.cell? ⟨gb110, 1, none⟩ = some (.int .u64 a0_1) := (blk_cell BK110.out 1).trans rfl; have hcz11_2 : w10.cell? ⟨gb110, 2, none⟩ = some (.string a0_2) := (blk_cell BK110.out 2).trans rfl; have hfz11_0 := blk_frozen BK110.out 0; have hfz11_1 := blk_frozen BK110.out 1; have hfz11_2 := blk_frozen BK110.out 2) | ((with_reducible refine gate_callee (f := 64) rfl ?_); refine goesL_ (some 15) rfl rfl Tryz.func64 (by kernel_rfl) rfl #[.int .u64 a0_1, .int .i64 8] rfl (by (try simp only [List.map_toArray, List.map_cons, List.map_nil]); first | done | rfl | (simp only [List.length_drop, qw]; rfl)) ?_; (with_reducible refine (saltusref02_Low.calls k a0_1 8 t112 _ A9.out).mono ?_); rintro e w12 ⟨rfl, hb⟩; refine ⟨_, rfl, ?_⟩; have n0_ := qf (blk_below (g := gb110) (o := .cells #[.bool false, .int .u64 a0_1, .string a0_2] 84 (0, 0)) (by (with_reducible repeat (first | refine blk_drewN ?_ _ | refine blk_drew ?_ | refine qh ?_ _)); exact BK110.out) hb); have n1_ := qf (below_step (by repeat (first | (with_reducible first | exact HB.out | apply qa | apply qb | apply qc | refine qg ?_ GE110.out) | exact HB.out)) hb); clear BK110 HB; have BK110 := n0_; have HB := n1_; clear n0_ n1_; (try clear hb); (try clear hi)))
  go_ret; exact ⟨by first | rfl | (simp [errW_none, errW_some] <;> rfl) | (simp [*, errW_none, errW_some] <;> rfl), by repeat (first | (with_reducible first | exact HB.out | apply qa | apply qb | apply qc | refine qg ?_ GE110.out) | exact HB.out)⟩
/-! ### saltusref02_Value: function 87 -/
def saltusref02_Value.l0 : Nat → ByteArray → Int → Int → Option (Int)
 | 0, _, _, _ => none
 | k + 1, x0, x3, x4 => if x4 ≥ 0 then (if 0 ≤ x4 then (if x4 < (x0.size : Int) then (saltusref02_Value.l0 k x0 (IntKind.u64.wrap ((IntKind.u64.wrap (x3 * 256)) + (IntKind.u64.wrap (bt x0 x4)))) (wrap64 (x4 - 1))) else (none)) else (none)) else (some x3)
def saltusref02_Value.f (k : Nat) (a0 : ByteArray) : Option (Int) := saltusref02_Value.l0 k a0 0 (wrap64 ((a0.size : Int) - 1))
set_option maxHeartbeats 8000000 in
set_option maxRecDepth 100000 in
theorem saltusref02_Value.calls (k : Nat) (a0 : ByteArray) (r : Int) (w : World) (h : saltusref02_Value.f k a0 = some r) :
  Calls Tryz.prog 87 #[.string a0] w fun e w' => e = .returned (.int .u64 r) ∧ Drawn0 w w' := by
 have H : (saltusref02_Value.l0 k a0 0 (wrap64 ((a0.size : Int) - 1))) = some r := h; clear h; have H' := qf H; clear H
 go_enter Tryz.func87, Tryz.ntmps87
 go_wp2
 go_loopg [3, 4] k (fun kq v3 v4 w' => ∃ (x3_1 : Int) (x4_1 : Int), v3 = .int .u64 x3_1 ∧ v4 = .int .i64 x4_1 ∧ Aside0 (saltusref02_Value.l0 kq a0 x3_1 x4_1 = some r) ∧ Aside0 (kq ≤ k) ∧ Drawn0 w w')
 case atStart => exact ⟨(0), (wrap64 ((a0.size : Int) - 1)), (by first | rfl | (simp; done) | (simp [*]; done)), (by first | rfl | (simp; done) | (simp [*]; done)), H', ⟨Nat.le_refl _⟩, by repeat (first | exact Drawn0.refl _ | apply Drawn0.step)⟩
 case round =>
  clear H'; obtain ⟨x3_1, x4_1, rfl, rfl, HA, HK1, ⟨m1, rfl⟩⟩ := hrel
  cases gk with
  | zero => exact absurd HA.out (by simp [saltusref02_Value.l0])
  | succ k1 =>
   have H := HA.out; clear HA; simp only [saltusref02_Value.l0] at H
   by_cases c2 : x4_1 ≥ 0
   ·rw [if_pos c2] at H; have c2b0 := qj c2; clear c2
    by_cases c3 : 0 ≤ x4_1
    ·rw [if_pos c3] at H; have c3b0 := qj c3; clear c3
     by_cases c4 : x4_1 < (a0.size : Int)
     ·rw [if_pos c4] at H; have c4b0 := qj c4; clear c4; have H' := qf H; clear H; have p5 : 0 ≤ (x4_1 : Int) := qe (by with_reducible assumption); have q5 : x4_1 < (a0.size : Int) := qe (by with_reducible assumption); have hx5 := bt_at a0 x4_1; replace p5 := eq_true p5; replace q5 := eq_true q5; go_wp2
      go_roundg k1
      case measure => have := HK1.out; omega
      case rel => exact ⟨(IntKind.u64.wrap ((IntKind.u64.wrap (x3_1 * 256)) + (IntKind.u64.wrap (bt a0 x4_1)))), (wrap64 (x4_1 - 1)), (by first | rfl | (simp; done) | (simp [*]; done)), (by first | rfl | (simp; done) | (simp [*]; done)), H', ⟨by have := HK1.out; omega⟩, by repeat (first | exact Drawn0.refl _ | apply Drawn0.step)⟩
     ·rw [if_neg c4] at H; exact absurd H (by simp)
    ·rw [if_neg c3] at H; exact absurd H (by simp)
   ·rw [if_neg c2] at H; have c2b0 := decide_eq_false c2; clear c2; obtain rfl := Option.some.inj H; go_wp2; go_ret; exact ⟨by first | rfl | (simp; done) | (simp [*]; done), by repeat (first | exact Drawn0.refl _ | apply Drawn0.step)⟩
/-! ### saltusref10_Word: function 66 -/
def saltusref10_Word.f (k : Nat) (a0 : ByteArray) (a1 : ByteArray) : Option (Int) := (saltusref04_Tag.f a0 a1).bind fun t113 => (if 0 ≤ 8 then (if 8 ≤ (t113.size : Int) then ((saltusref02_Value.f k (t113.extract 0 8)).bind fun t114 => (some t114)) else (none)) else (none))
set_option maxHeartbeats 8000000 in
set_option maxRecDepth 100000 in
theorem saltusref10_Word.calls (k : Nat) (a0 : ByteArray) (a1 : ByteArray) (r : Int) (w : World) (h : saltusref10_Word.f k a0 a1 = some r) :
  Calls Tryz.prog 66 #[.string a0, .string a1] w fun e w' => e = .returned (.int .u64 r) ∧ Below w.heap.size w w' := by
 have HB := qf (Below.refl w.heap.size w); have H : ((saltusref04_Tag.f a0 a1).bind fun t113 => (if 0 ≤ 8 then (if 8 ≤ (t113.size : Int) then ((saltusref02_Value.f k (t113.extract 0 8)).bind fun t114 => (some t114)) else (none)) else (none))) = some r := h; clear h; replace H := qi H; obtain ⟨t113, A30, H⟩ := H
 (try dsimp only at H)
 have A3 := qf A30; clear A30
 by_cases c4 : 0 ≤ 8
 ·rw [if_pos c4] at H; have c4b0 := eq_true c4; have c4b1 := qj c4; clear c4
  by_cases c5 : 8 ≤ (t113.size : Int)
  ·rw [if_pos c5] at H; have c5b0 := eq_true c5; have c5b1 := qj c5; clear c5; replace H := qi H; obtain ⟨t114, A60, H⟩ := H
   (try dsimp only at H)
   have A6 := qf A60; clear A60; obtain rfl := Option.some.inj H
   go_enter Tryz.func66, Tryz.ntmps66
   go_wp2_with (first | ((with_reducible refine gate_callee (f := 88) rfl ?_); refine goesL_ (some 7) rfl rfl Tryz.func88 (by kernel_rfl) rfl #[.string a0, .string a1] rfl (by (try simp only [List.map_toArray, List.map_cons, List.map_nil]); first | done | rfl | (simp only [List.length_drop, qw]; rfl)) ?_; (with_reducible refine (saltusref04_Tag.calls a0 a1 t113 _ A3.out).mono ?_); rintro e w7 ⟨rfl, hb⟩; refine ⟨_, rfl, ?_⟩; have n0_ := qf (below_step (by repeat (first | (with_reducible first | exact HB.out | apply qa | apply qb | apply qc) | exact HB.out)) hb); clear HB; have HB := n0_; clear n0_; (try clear hb); (try clear hi)) | ((with_reducible refine gate_callee (f := 87) rfl ?_); refine goesL_ (some 9) rfl rfl Tryz.func87 (by kernel_rfl) rfl #[.string (t113.extract 0 8)] rfl (by (try simp only [List.map_toArray, List.map_cons, List.map_nil]); first | done | rfl | (simp only [List.length_drop, qw]; rfl)) ?_; (with_reducible refine (saltusref02_Value.calls k (t113.extract 0 8) t114 _ A6.out).mono ?_); rintro e w' ⟨rfl, ⟨nd, rfl⟩⟩; refine ⟨_, rfl, ?_⟩))
   go_ret; exact ⟨by first | rfl | (simp [errW_none, errW_some] <;> rfl) | (simp [*, errW_none, errW_some] <;> rfl), by repeat (first | (with_reducible first | exact HB.out | apply qa | apply qb | apply qc) | exact HB.out)⟩
  ·rw [if_neg c5] at H; exact absurd H (by simp)
 ·rw [if_neg c4] at H; exact absurd H (by simp)
end Go.Proofs.YtolbhliepkcihaaGreatDoor.QTB
end
section
namespace Go.Proofs.YtolbhliepkcihaaGreatDoor.Trust
open Go.RowKit Mem Sha Mac YtolbhliepkcihaaGreatDoorW.PrintWords YtolbhliepkcihaaGreatDoorW.PrintLast YtolbhliepkcihaaGreatDoorW.PrintMore
def valN (t : ByteArray) : Nat → Nat
 | 0 => 0
 | n + 1 => valN t n + bn t n * 256 ^ n
theorem valN_lt (t : ByteArray) : ∀ n, valN t n < 256 ^ n
 | 0 => by show 0 < 1; decide
 | n + 1 => by
  have h1 := valN_lt t n; have h2 := bn_lt t n; have h3 : bn t n * 256 ^ n ≤ 255 * 256 ^ n := Nat.mul_le_mul_right _ (by omega)
  show valN t n + bn t n * 256 ^ n < 256 ^ (n + 1)
  rw [Nat.pow_succ]
  omega
theorem val_or (a c n : Nat) (ha : a < 256 ^ n) (hc : c < 256) (hn : n < 8) : bits .or .u64 (a : Int) ((c * 256 ^ n : Nat) : Int) = ((a + c * 256 ^ n : Nat) : Int) := by
 have h8 : 256 ^ n * 256 ≤ 18446744073709551616 := by
  have h := Nat.pow_le_pow_right (show 0 < 256 by decide) (show n + 1 ≤ 8 by omega); rw [Nat.pow_succ] at h; exact h
 have h3 : c * 256 ^ n ≤ 255 * 256 ^ n := Nat.mul_le_mul_right _ (by omega)
 have e2 : (256 : Nat) ^ n = 2 ^ (8 * n) := by rw [Nat.pow_mul]
 show IntKind.u64.wrap ((BitVec.ofInt 64 (a : Int) ||| BitVec.ofInt 64 ((c * 256 ^ n : Nat) : Int)).toNat : Int) = _
 rw [BitVec.ofInt_natCast, BitVec.ofInt_natCast, BitVec.toNat_or, BitVec.toNat_ofNat, BitVec.toNat_ofNat, Nat.mod_eq_of_lt (by omega), Nat.mod_eq_of_lt (by omega)]
 have h4 : a ||| c * 256 ^ n = a + c * 256 ^ n := by
  have h5 := Nat.shiftLeft_add_eq_or_of_lt (b := a) (i := 8 * n) (by rw [← e2]; exact ha) c; rw [Nat.shiftLeft_eq, ← e2] at h5; rw [Nat.or_comm, ← h5, Nat.add_comm]
 have h6 : a + c * 256 ^ n < 18446744073709551616 := by omega
 rw [h4]; generalize a + c * 256 ^ n = s at *; rw [IntKind.wrap_u64]
 omega
theorem val_shl (a c n : Nat) (ha : a < 256 ^ n) (hc : c < 256) (hn : n < 8) : bits .or .u64 (a : Int) (IntKind.u64.wrap ((c : Int) * 2 ^ (8 * n))) = ((a + c * 256 ^ n : Nat) : Int) := by
 have h8 : 256 ^ n * 256 ≤ 18446744073709551616 := by
  have h := Nat.pow_le_pow_right (show 0 < 256 by decide) (show n + 1 ≤ 8 by omega); rw [Nat.pow_succ] at h; exact h
 have h3 : c * 256 ^ n ≤ 255 * 256 ^ n := Nat.mul_le_mul_right _ (by omega)
 have e2 : ((c : Int) * 2 ^ (8 * n)) = ((c * 256 ^ n : Nat) : Int) := by
  rw [Int.natCast_mul, Int.natCast_pow, Int.pow_mul]; rfl
 rw [e2, ← val_or a c n ha hc hn]
 congr 1
 generalize c * 256 ^ n = s at *; rw [IntKind.wrap_u64]
 omega
theorem bn_cut (t : ByteArray) (n i : Nat) (hi : i < n) (hn : n ≤ t.size) : bn (t.extract 0 n) i = bn t i := by
 have hz : i < (t.extract 0 n).size := by rw [ByteArray.size_extract]; omega
 rw [← bn_at _ _ hz, ← bn_at _ _ (by omega), ByteArray.getElem_extract]
 congr 2
 omega
theorem val_cut (t : ByteArray) (n : Nat) (hn : n ≤ t.size) : ∀ i, i ≤ n → valN (t.extract 0 n) i = valN t i
 | 0, _ => rfl
 | i + 1, hi => by
  show valN (t.extract 0 n) i + bn (t.extract 0 n) i * 256 ^ i = _
  rw [val_cut t n hn i (by omega), bn_cut t n i (by omega) hn]; rfl
set_option maxRecDepth 100000 in
set_option maxHeartbeats 4000000 in
theorem word_any (key text : ByteArray) (hk : key.size ≤ 1000000000) (ht : text.size ≤ 1000000000) (w : World) :
  Calls Tryz.prog 35 #[.string key, .string text] w fun e w' => e = .returned (.int .u64 ((valN (tagS key text) 8 : Nat) : Int)) ∧ Below w.heap.size w w' := by
 have HT := Lib.hid (mac_Tag.calls key text (tagS key text) · (if_pos ⟨hk, ht⟩)); have hz := tag_size key text; generalize tagS key text = t at *
 obtain ⟨g0, hg0⟩ : ∃ g0, w.heap.size = g0 := ⟨_, rfl⟩
 have b0 : Below g0 w w := by rw [← hg0]; exact Below.refl _ _
 have HG0 := Lib.hid hg0; rw [hg0]; clear hg0
 go_enter Tryz.func35, Tryz.ntmps35
 go_wp2_with fail
 refine (HT.out _).mono ?_
 rintro e w1 ⟨rfl, hb1⟩
 rw [HG0.out] at hb1
 have hle : g0 ≤ w1.heap.size := by have h := hb1.size; rw [HG0.out] at h; exact h
 clear b0 HT
 obtain ⟨k, hkk⟩ : ∃ k, t.extract 0 8 = k := ⟨_, rfl⟩
 have hzk : k.size = 8 := by rw [← hkk, ByteArray.size_extract]; omega
 have hcv := Lib.run_convert_string_bytes (P := Tryz.prog) w1 9 74 5 k Tryz.underlying9 Tryz.underlying74 Tryz.underlying5; rw [hzk] at hcv
 obtain ⟨g, hg⟩ : ∃ g, w1.heap.size = g := ⟨_, rfl⟩
 have b1 : Below g0 w (Lib.bytesWorld w1 5 k) :=
  hb1.trans ⟨rfl, rfl, rfl, by rw [Lib.bytesWorld_size]; omega, fun i hi => Lib.bytesWorld_at_old w1 5 k i (by omega)⟩
 have c1 : ∀ j, j < 8 → (Lib.bytesWorld w1 5 k).cell? ⟨g, j, none⟩ = some (.int .u8 ((bn k j : Nat) : Int)) := fun j hj => by
  rw [← hg, Lib.bytesWorld_cell w1 5 k j (by omega), data_bn k j (by omega)]
 generalize grownCap w1 8 0 5 = cap at *; have C1 := Lib.hid c1; have HKK := Lib.hid hkk
 have hzt : (8 : Int) ≤ (t.size : Int) := by omega
 rw [hg] at hcv; have HCV := Lib.hid hcv; clear c1 hg hb1 hkk hcv; have hkk2 := HKK.out; have hcv2 := HCV.out; go_wp2; clear hkk2 hcv2; have B1 := Lib.hid b1; clear b1; generalize Lib.bytesWorld w1 5 k = w2 at *
 go_loop [5, 14] (fun o i => ∃ j : Nat, j ≤ 8 ∧ i = .int .i64 j ∧ o = .int .u64 ((valN k j : Nat) : Int)) (fun _ i => 8 - (intOf i).toNat)
 case atStart => exact ⟨0, by omega, rfl, rfl⟩
 case round =>
  obtain ⟨j, hj, rfl, rfl⟩ := hrel
  by_cases hlt : j < 8
  ·have cj := C1.out j hlt
   have i0 : (0 : Int) ≤ (j : Int) := by omega
   have i1 : (j : Int) < 8 := by omega
   have l0 : (0 : Int) ≤ ((bn k j : Nat) : Int) := by omega
   have l1 : ((bn k j : Nat) : Int) ≤ 255 := by have := bn_lt k j; omega
   have hor : bits .or .u64 ((valN k j : Nat) : Int) (IntKind.u64.wrap (((bn k j : Nat) : Int) * 2 ^ (8 * j))) = ((valN k (j + 1) : Nat) : Int) := val_shl (valN k j) (bn k j) j (valN_lt k j) (bn_lt k j) hlt; go_wp2; exact ⟨⟨j + 1, by omega, by go_num, rfl⟩, by simp [intOf]; omega⟩
  ·obtain rfl : j = 8 := by omega
   rw [← HKK.out, val_cut t 8 (by omega) 8 (by omega)]; go_wp2; go_ret; exact ⟨rfl, B1.out⟩
end Go.Proofs.YtolbhliepkcihaaGreatDoor.Trust
end
section
namespace Go.Proofs.YtolbhliepkcihaaGreatDoor.Codec
open Go.RowKit YtolbhliepkcihaaGreatDoorW.PrintWords YtolbhliepkcihaaGreatDoorW.PrintLast YtolbhliepkcihaaGreatDoorW.PrintMore Sha Mac Trust
def lowL (n many : Nat) : List Nat := (List.range many).map fun i => n / 256 ^ i % 256
def lowS (n many : Nat) : ByteArray := ofNats (lowL n many)
def numS (n : Nat) : ByteArray := lowS n 8
def textS (s : ByteArray) : ByteArray := lowS s.size 2 ++ s
def wordN (key text : ByteArray) : Nat := valN (tagS key text) 8
theorem lowS_size (n many : Nat) : (lowS n many).size = many := by unfold lowS lowL; rw [ofNats_size]; simp
theorem numS_size (n : Nat) : (numS n).size = 8 := lowS_size n 8
theorem textS_size (s : ByteArray) : (textS s).size = s.size + 2 := by unfold textS; rw [ByteArray.size_append, lowS_size]; omega
theorem wordN_lt (key text : ByteArray) : wordN key text < 18446744073709551616 := valN_lt (tagS key text) 8
def lowI (n many i : Nat) : List Int := (List.range many).map fun j => if j < i then ((n / 256 ^ j % 256 : Nat) : Int) else 0
theorem lowI_len (n many i : Nat) : (lowI n many i).length = many := by unfold lowI; simp
theorem lowI_zero (n many : Nat) : List.replicate many (0 : Int) = lowI n many 0 := by
 unfold lowI; apply List.ext_getElem
 ·simp
 ·intro i h1 h2
  simp
theorem lowI_all (n many : Nat) : lowI n many many = ints (lowL n many) := by
 unfold lowI lowL ints; rw [List.map_map]; apply List.map_congr_left; intro j hj; rw [if_pos (List.mem_range.1 hj)]; rfl
theorem lowI_at (n many i j : Nat) (h : j < (lowI n many i).length) : (lowI n many i)[j] = if j < i then ((n / 256 ^ j % 256 : Nat) : Int) else 0 := by
 simp [lowI]
theorem lowI_set (n many i : Nat) (_ : i < many) : (lowI n many i).set i ((n / 256 ^ i % 256 : Nat) : Int) = lowI n many (i + 1) := by
 apply List.ext_getElem
 ·rw [List.length_set, lowI_len, lowI_len]
 ·intro j h1 h2; rw [List.getElem_set, lowI_at, lowI_at]
  by_cases hij : i = j
  ·subst hij; rw [if_pos rfl, if_pos (by omega)]
  ·rw [if_neg hij]
   by_cases h : j < i
   ·rw [if_pos h, if_pos (by omega)]
   ·rw [if_neg h, if_neg (by omega)]
theorem shr_at (n i : Nat) (hi : i < 8) : shr .u64 (n : Int) (wrap64 (8 * (i : Int))) % 256 = ((n / 256 ^ i % 256 : Nat) : Int) := by
 have e1 : wrap64 (8 * (i : Int)) = ((8 * i : Nat) : Int) := by unfold wrap64; omega
 have e2 : shr .u64 (n : Int) (((8 * i : Nat) : Int)) = (n : Int) / 2 ^ min (((8 * i : Nat) : Int)).toNat 64 := rfl
 have e3 : (256 : Nat) ^ i = 2 ^ (8 * i) := by rw [Nat.pow_mul]
 rw [e1, e2, Int.toNat_natCast, Nat.min_eq_left (by omega), e3]
 have e4 : ((2 : Int) ^ (8 * i)) = ((2 ^ (8 * i) : Nat) : Int) := by rw [Int.natCast_pow]; rfl
 rw [e4, ← Int.natCast_ediv]
 omega
theorem low_l0 (n many : Nat) (hm : many ≤ 8) (d : Nat) : ∀ (k i : Nat), i + d = many → d < k →
  QTB.codec_low.l0 k (n : Int) (lowI n many i) ((lowI n many 0).length : Int) (i : Int) = some (lowS n many) := by
 induction d with
 | zero =>
  intro k i hi hk
  obtain ⟨k, rfl⟩ : ∃ m, k = m + 1 := ⟨k - 1, by omega⟩
  have hl := lowI_len n many 0; rw [QTB.codec_low.l0, if_neg (by omega)]
  obtain rfl : i = many := by omega
  rw [lowI_all, ofNats_eq]; rfl
 | succ d ih =>
  intro k i hi hk
  obtain ⟨k, rfl⟩ : ∃ m, k = m + 1 := ⟨k - 1, by omega⟩
  have hl := lowI_len n many 0; have hl2 := lowI_len n many i
  have e1 : wrap64 (8 * (i : Int)) = ((8 * i : Nat) : Int) := by unfold wrap64; omega
  have e2 : wrap64 ((i : Int) + 1) = ((i + 1 : Nat) : Int) := by unfold wrap64; omega
  rw [QTB.codec_low.l0, if_pos (by omega), if_pos (by rw [e1]; omega), if_pos (by omega), if_pos (by omega), shr_at n i (by omega), e2, Int.toNat_natCast, lowI_set n many i (by omega)]; exact ih k (i + 1) (by omega) (by omega)
theorem low_f (n many : Nat) (hm : many ≤ 8) (k : Nat) (h : 8 < k) : QTB.codec_low.f k (n : Int) (many : Int) = some (lowS n many) := by
 unfold QTB.codec_low.f; rw [if_pos (by omega), if_pos (by omega), Int.toNat_natCast, lowI_zero n many, qv]; exact low_l0 n many hm many k 0 (by omega) (by omega)
theorem number_f (n k : Nat) (h : 8 < k) : QTB.codec_Number.f k (n : Int) = some (numS n) := by
 unfold QTB.codec_Number.f; have e := low_f n 8 (by decide) k h; rw [show ((8 : Nat) : Int) = 8 from rfl] at e; rw [e]; rfl
theorem wrap_nat (n : Nat) (h : n < 18446744073709551616) : IntKind.u64.wrap (n : Int) = (n : Int) := by rw [IntKind.wrap_u64]; omega
theorem text_f (s : ByteArray) (hs : s.size ≤ 4096) (k : Nat) (h : 8 < k) : QTB.codec_Text.f k s = some (textS s, 0) := by
 unfold QTB.codec_Text.f; have e := low_f s.size 2 (by decide) k h; rw [show ((2 : Nat) : Int) = 2 from rfl] at e; rw [if_neg (by omega), wrap_nat s.size (by omega), e, qv, if_pos (by rw [lowS_size]; omega)]; rfl
theorem text_no (s : ByteArray) (hs : 4096 < s.size) (k : Nat) : QTB.codec_Text.f k s = some (⟨#[]⟩, 4) := by
 unfold QTB.codec_Text.f; rw [if_pos (by omega)]
theorem lowS_snoc (n i : Nat) : lowS n i ++ ofNats [n / 256 ^ i % 256] = lowS n (i + 1) := by
 unfold lowS lowL; rw [ofNats_append, List.range_succ, List.map_append]; rfl
theorem reflow_l0 (n many : Nat) (hn : n < 18446744073709551616) (hm : many ≤ 8) (d : Nat) : ∀ (k i : Nat), i + d = many → d < k →
  QTB.saltusref02_Low.l0 k ((n / 256 ^ i : Nat) : Int) (many : Int) (lowS n i) (i : Int) = some (lowS n many) := by
 induction d with
 | zero =>
  intro k i hi hk
  obtain ⟨k, rfl⟩ : ∃ m, k = m + 1 := ⟨k - 1, by omega⟩
  rw [QTB.saltusref02_Low.l0, if_neg (by omega)]
  obtain rfl : i = many := by omega
  rfl
 | succ d ih =>
  intro k i hi hk
  obtain ⟨k, rfl⟩ : ∃ m, k = m + 1 := ⟨k - 1, by omega⟩
  have e2 : wrap64 ((i : Int) + 1) = ((i + 1 : Nat) : Int) := by unfold wrap64; omega
  have hq : n / 256 ^ i < 18446744073709551616 := Nat.lt_of_le_of_lt (Nat.div_le_self _ _) hn
  have e3 : Int.tmod ((n / 256 ^ i : Nat) : Int) 256 % 256 = ((n / 256 ^ i % 256 : Nat) : Int) := by
   rw [Int.tmod_eq_emod_of_nonneg (Int.natCast_nonneg _)]
   omega
  have e4 : IntKind.u64.wrap (Int.tdiv ((n / 256 ^ i : Nat) : Int) 256) = ((n / 256 ^ (i + 1) : Nat) : Int) := by
   rw [Int.tdiv_eq_ediv_of_nonneg (Int.natCast_nonneg _), Nat.pow_succ, ← Nat.div_div_eq_div_mul]; clear e3; generalize n / 256 ^ i = q at *; rw [IntKind.wrap_u64]
   omega
  have e5 : strOfNums [((n / 256 ^ i % 256 : Nat) : Int)] = ofNats [n / 256 ^ i % 256] := ofNats_eq [n / 256 ^ i % 256]; rw [QTB.saltusref02_Low.l0, if_pos (by omega), e3, qv, e5, if_pos (by rw [lowS_size, ofNats_size, List.length_singleton]; omega), e4, e2, lowS_snoc]; exact ih k (i + 1) (by omega) (by omega)
theorem reflow_f (n many : Nat) (hn : n < 18446744073709551616) (hm : many ≤ 8) (k : Nat) (h : 8 < k) : QTB.saltusref02_Low.f k (n : Int) (many : Int) = some (lowS n many) := by
 have h0 := reflow_l0 n many hn hm many k 0 (by omega) (by omega); rw [Nat.pow_zero, Nat.div_one] at h0; exact h0
theorem one_text (s : ByteArray) (n : Int) (hs : s.size ≤ 1000000000) (k : Nat) (h : 8 < k) : QTB.saltusref02_One.f k true n s = some (textS s) := by
 unfold QTB.saltusref02_One.f; have e := reflow_f s.size 2 (by omega) (by decide) k h; rw [show ((2 : Nat) : Int) = 2 from rfl] at e; rw [if_pos rfl, wrap_nat s.size (by omega), e, qv, if_pos (by rw [lowS_size]; omega)]; rfl
theorem one_num (s : ByteArray) (n : Nat) (hn : n < 18446744073709551616) (k : Nat) (h : 8 < k) : QTB.saltusref02_One.f k false (n : Int) s = some (numS n) := by
 unfold QTB.saltusref02_One.f; have e := reflow_f n 8 hn (by decide) k h; rw [show ((8 : Nat) : Int) = 8 from rfl] at e; rw [if_neg (by decide), e]; rfl
def valH (s : ByteArray) (i : Nat) : Nat → Nat
 | 0 => 0
 | d + 1 => bn s i + 256 * valH s (i + 1) d
theorem valH_lt (s : ByteArray) : ∀ d i, valH s i d < 256 ^ d
 | 0, _ => by show 0 < 1; decide
 | d + 1, i => by
  have h1 := valH_lt s d (i + 1); have h2 := bn_lt s i
  show bn s i + 256 * valH s (i + 1) d < 256 ^ (d + 1)
  rw [Nat.pow_succ]
  omega
theorem val_split (s : ByteArray) : ∀ d i, valN s (i + d) = valN s i + 256 ^ i * valH s i d
 | 0, i => by show valN s i = valN s i + 256 ^ i * 0; omega
 | d + 1, i => by
  have h := val_split s d (i + 1); rw [show i + (d + 1) = i + 1 + d by omega, h]
  show valN s i + bn s i * 256 ^ i + 256 ^ (i + 1) * valH s (i + 1) d = valN s i + 256 ^ i * (bn s i + 256 * valH s (i + 1) d)
  rw [Nat.pow_succ, Nat.mul_add, Nat.mul_assoc, Nat.mul_comm (bn s i), Nat.add_assoc]
theorem value_l0 (s : ByteArray) (hs : s.size ≤ 8) (i : Nat) : ∀ (k d : Nat), i + d = s.size → i < k →
  QTB.saltusref02_Value.l0 k s ((valH s i d : Nat) : Int) ((i : Int) - 1) = some ((valN s s.size : Nat) : Int) := by
 induction i with
 | zero =>
  intro k d hd hk
  obtain ⟨k, rfl⟩ : ∃ m, k = m + 1 := ⟨k - 1, by omega⟩
  rw [QTB.saltusref02_Value.l0, if_neg (by omega)]; have h := val_split s d 0; rw [Nat.pow_zero, Nat.one_mul, show 0 + d = s.size by omega] at h; rw [h]
  show some ((valH s 0 d : Nat) : Int) = some ((0 + valH s 0 d : Nat) : Int)
  rw [Nat.zero_add]
 | succ i ih =>
  intro k d hd hk
  obtain ⟨k, rfl⟩ : ∃ m, k = m + 1 := ⟨k - 1, by omega⟩
  have e1 : (((i + 1 : Nat) : Int) - 1) = (i : Int) := by omega
  have e2 : wrap64 ((i : Int) - 1) = (i : Int) - 1 := by unfold wrap64; omega
  have hv := valH_lt s (d + 1) i; have hp : 256 ^ (d + 1) ≤ 18446744073709551616 := Nat.pow_le_pow_right (show 0 < 256 by decide) (show d + 1 ≤ 8 by omega); have hb := bn_lt s i
  have e3 : IntKind.u64.wrap (IntKind.u64.wrap (((valH s (i + 1) d : Nat) : Int) * 256) + IntKind.u64.wrap (bt s (i : Int))) = ((valH s i (d + 1) : Nat) : Int) := by
   have e4 : valH s i (d + 1) = bn s i + 256 * valH s (i + 1) d := rfl; rw [bt_bn, IntKind.wrap_u64, IntKind.wrap_u64, IntKind.wrap_u64]
   omega
  rw [QTB.saltusref02_Value.l0, e1, if_pos (by omega), if_pos (by omega), if_pos (by omega), e3, e2]; exact ih k (d + 1) (by omega) (by omega)
theorem value_f (s : ByteArray) (hs : s.size ≤ 8) (k : Nat) (h : 8 < k) : QTB.saltusref02_Value.f k s = some ((valN s s.size : Nat) : Int) := by
 have h0 := value_l0 s hs s.size k 0 (by omega) (by omega)
 have e : wrap64 ((s.size : Int) - 1) = (s.size : Int) - 1 := by unfold wrap64; omega
 unfold QTB.saltusref02_Value.f; rw [e]; exact h0
theorem refword_f (key text : ByteArray) (hk : key.size ≤ 1000000000) (ht : text.size ≤ 1000000000) (k : Nat) (h : 8 < k) : QTB.saltusref10_Word.f k key text = some ((wordN key text : Nat) : Int) := by
 have e0 : saltusref04_Tag.f key text = some (tagS key text) := if_pos ⟨hk, ht⟩; have hz := tag_size key text
 have hx : ((tagS key text).extract 0 8).size = 8 := by rw [ByteArray.size_extract]; omega
 have e1 := value_f ((tagS key text).extract 0 8) (by omega) k h; rw [hx, val_cut _ 8 (by omega) 8 (by omega)] at e1; unfold QTB.saltusref10_Word.f; rw [e0, qv, if_pos (by decide), if_pos (by omega), e1]; rfl
end Go.Proofs.YtolbhliepkcihaaGreatDoor.Codec
end
section
namespace Go.Proofs.YtolbhliepkcihaaGreatDoor
open Go.RowKit YtolbhliepkcihaaGreatDoorW.PrintWords YtolbhliepkcihaaGreatDoorW.PrintLast YtolbhliepkcihaaGreatDoorW.PrintMore Sha Mac Trust Codec
def codec_Number.f (a0 : Int) : Option ByteArray := if 0 ≤ a0 ∧ a0 < 18446744073709551616 then some (numS a0.toNat) else none
theorem codec_Number.calls (a0 : Int) (r : ByteArray) (w : World) (h : codec_Number.f a0 = some r) :
  Calls Tryz.prog 36 #[.int .u64 a0] w fun e w' => e = .returned (.string r) ∧ Below w.heap.size w w' := by
 unfold codec_Number.f at h
 split at h
 ·rename_i hc; obtain ⟨n, rfl⟩ := Int.eq_ofNat_of_zero_le hc.1; exact QTB.codec_Number.calls 9 n r w ((number_f n 9 (by decide)).trans h)
 ·cases h
def codec_Text.f (a0 : ByteArray) : Option (ByteArray × Int) := if a0.size ≤ 4096 then some (textS a0, 0) else some (⟨#[]⟩, 4)
theorem codec_Text.calls (a0 : ByteArray) (r1 : ByteArray) (r2 : Int) (w : World) (h : codec_Text.f a0 = some (r1, r2)) :
  Calls Tryz.prog 74 #[.string a0] w fun e w' => e = .returned (.tuple #[.string r1, .int .i64 r2]) ∧ Below w.heap.size w w' := by
 unfold codec_Text.f at h
 split at h
 ·exact QTB.codec_Text.calls 9 a0 r1 r2 w ((text_f a0 (by assumption) 9 (by decide)).trans h)
 ·exact QTB.codec_Text.calls 9 a0 r1 r2 w ((text_no a0 (by omega) 9).trans h)
def saltusref02_Low.f (a0 a1 : Int) : Option ByteArray := if 0 ≤ a0 ∧ a0 < 18446744073709551616 ∧ 0 ≤ a1 ∧ a1 ≤ 8 then some (lowS a0.toNat a1.toNat) else none
theorem saltusref02_Low.calls (a0 : Int) (a1 : Int) (r : ByteArray) (w : World) (h : saltusref02_Low.f a0 a1 = some r) :
  Calls Tryz.prog 64 #[.int .u64 a0, .int .i64 a1] w fun e w' => e = .returned (.string r) ∧ Below w.heap.size w w' := by
 unfold saltusref02_Low.f at h
 split at h
 ·rename_i hc; obtain ⟨n, rfl⟩ := Int.eq_ofNat_of_zero_le hc.1; obtain ⟨m, rfl⟩ := Int.eq_ofNat_of_zero_le hc.2.2.1; exact QTB.saltusref02_Low.calls 9 n m r w ((reflow_f n m (by omega) (by omega) 9 (by decide)).trans h)
 ·cases h
def saltusref02_One.f (a0 : Bool) (a1 : Int) (a2 : ByteArray) : Option ByteArray := if a2.size ≤ 1000000000 ∧ 0 ≤ a1 ∧ a1 < 18446744073709551616 then some (if a0 = true then textS a2 else numS a1.toNat) else none
theorem saltusref02_One.calls (a0_0 : Bool) (a0_1 : Int) (a0_2 : ByteArray) (r : ByteArray) (w : World) (h : saltusref02_One.f a0_0 a0_1 a0_2 = some r) :
  Calls Tryz.prog 86 #[.agg #[.bool a0_0, .int .u64 a0_1, .string a0_2]] w fun e w' => e = .returned (.string r) ∧ Below w.heap.size w w' := by
 unfold saltusref02_One.f at h
 split at h
 ·rename_i hc; obtain ⟨n, rfl⟩ := Int.eq_ofNat_of_zero_le hc.2.1
  cases a0_0 with
  | true => exact QTB.saltusref02_One.calls 9 true n a0_2 r w ((one_text a0_2 n hc.1 9 (by decide)).trans h)
  | false => exact QTB.saltusref02_One.calls 9 false n a0_2 r w ((one_num a0_2 n (by omega) 9 (by decide)).trans h)
 ·cases h
def saltusref02_Value.f (a0 : ByteArray) : Option Int := if a0.size ≤ 8 then some ((valN a0 a0.size : Nat) : Int) else none
def trust_Word.f (a0 a1 : ByteArray) : Option Int := if a0.size ≤ 1000000000 ∧ a1.size ≤ 1000000000 then some ((wordN a0 a1 : Nat) : Int) else none
theorem trust_Word.calls (a0 a1 : ByteArray) (r : Int) (w : World) (h : trust_Word.f a0 a1 = some r) :
  Calls Tryz.prog 35 #[.string a0, .string a1] w fun e w' => e = .returned (.int .u64 r) ∧ Below w.heap.size w w' := by
 unfold trust_Word.f at h
 split at h
 ·rename_i hc; obtain rfl := Option.some.inj h; exact word_any a0 a1 hc.1 hc.2 w
 ·cases h
def saltusref10_Word.f (a0 a1 : ByteArray) : Option Int := if a0.size ≤ 1000000000 ∧ a1.size ≤ 1000000000 then some ((wordN a0 a1 : Nat) : Int) else none
theorem saltusref10_Word.calls (a0 a1 : ByteArray) (r : Int) (w : World) (h : saltusref10_Word.f a0 a1 = some r) :
  Calls Tryz.prog 66 #[.string a0, .string a1] w fun e w' => e = .returned (.int .u64 r) ∧ Below w.heap.size w w' := by
 unfold saltusref10_Word.f at h
 split at h
 ·rename_i hc; exact QTB.saltusref10_Word.calls 9 a0 a1 r w ((refword_f a0 a1 hc.1 hc.2 9 (by decide)).trans h)
 ·cases h
end Go.Proofs.YtolbhliepkcihaaGreatDoor
end
