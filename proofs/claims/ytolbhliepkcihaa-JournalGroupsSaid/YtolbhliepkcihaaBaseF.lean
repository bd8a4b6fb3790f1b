/- Joined by a program of this session (wip/pack.py) for this claim: QTBx0, QTBx1, Trust3, Codec, CodecStub. -/
import Derived.Test.YtolbhliepkcihaaProg
import Derived.Below
import Derived.Deep.Draws
import Derived.Deep.AppendLies
import Derived.Maps.AppendAt
import Derived.OwnWalk
import Derived.Laws.BytesArg
import Derived.Laws.MakeOwn
import Derived.Laws.OwnMore
import Derived.Deep.OwnRows
import Derived.Tactics
import Derived.Lib.ConvBytes
import Derived.Laws.Slices
import Derived.WalkKit
import Derived.KernelRfl
import Derived.RowKit3
import Derived.Deep.LoopGhost
import Derived.Deep.QuietTactic
import Derived.BigQuiet
import Derived.WideLaws
import Derived.Deep.DeepCutAuto
import Derived.Deep.CutBlock
import Derived.Deep.RegionHeld3
import Derived.Laws.Rows
import Derived.Lib.AppendStr
import Derived.ArgAppend
import Derived.Laws.IdiomCopy
import Derived.OrdersHeld
import Derived.Laws.BitsLemmas
import Derived.RowKit
import Derived.Test.YtolbhliepkcihaaBaseD
import Derived.Test.YtolbhliepkcihaaPWa
import Derived.Test.YtolbhliepkcihaaBaseC
section
namespace Go.Proofs.Ytolbhliepkcihaa.QTB
open Go.RowKit Go.Proofs.YtolbhliepkcihaaW.PrintWords Go.Proofs.YtolbhliepkcihaaW.PrintLast Go.Proofs.YtolbhliepkcihaaW.PrintMore
attribute [local go_sem] max2_int min2_int max_two min_two max_three min_three max_four min_four   -- for this text's walks alone
set_option linter.unusedVariables false
set_option linter.unusedSimpArgs false
def errW : Option Int → Value
 | none => .nilIface
 | some c => .iface 0 (.int .i64 c)
theorem errW_none : errW none = .nilIface := rfl
theorem errW_some (c : Int) : errW (some c) = .iface 0 (.int .i64 c) := rfl
theorem info5 : (Try.prog.info? 5).map (fun i => (i.zero, i.size, i.bytes)) = some (some (.int .u8 0), 1, 1) := by kernel_rfl
end Go.Proofs.Ytolbhliepkcihaa.QTB
end
section
namespace Go.Proofs.Ytolbhliepkcihaa.QTB
open Go.RowKit Go.Proofs.YtolbhliepkcihaaW.PrintWords Go.Proofs.YtolbhliepkcihaaW.PrintLast Go.Proofs.YtolbhliepkcihaaW.PrintMore
attribute [local go_sem] max2_int min2_int max_two min_two max_three min_three max_four min_four   -- for this text's walks alone
set_option linter.unusedVariables false
set_option linter.unusedSimpArgs false
/-! ### saltusref02_Value: function 83 -/
/-! ### saltusref10_Word: function 45 -/
/-! ### codec_low: function 109 -/
def codec_low.l0 : Nat → Int → List Int → Int → Int → Option (ByteArray)
 | 0, _, _, _, _ => none
 | k + 1, x0, x5, x10, x11 => if x11 < x10 then (if 0 ≤ (wrap64 (8 * x11)) then (if 0 ≤ x11 then (if x11 < (x5.length : Int) then (codec_low.l0 k x0 (x5.set (x11 : Int).toNat ((shr .u64 x0 (wrap64 (8 * x11))) % 256)) x10 (wrap64 (x11 + 1))) else (none)) else (none)) else (none)) else (some (strOfNums x5))
def codec_low.f (k : Nat) (a0 : Int) (a1 : Int) : Option (ByteArray) := if 0 ≤ a1 then (if (a1 : Int).toNat ≤ 281474976710656 then ((some (List.replicate (a1 : Int).toNat 0 : List Int)).bind fun y103 => (codec_low.l0 k a0 y103 (y103.length : Int) 0)) else (none)) else (none)
theorem codec_low.mono_l : ∀ k, (∀ y0 y1 y2 y3, LeO (codec_low.l0 k y0 y1 y2 y3) (codec_low.l0 (k + 1) y0 y1 y2 y3))
 | 0 => fun _ _ _ _ r h => by simp [codec_low.l0] at h
 | k + 1 => by
  have ih0 := codec_low.mono_l k
  ·intro y0 y1 y2 y3
   unfold codec_low.l0
   repeat' first
   | (with_reducible exact ih0 _ _ _ _)
   | (with_reducible exact LeO.refl _)
   | (with_reducible exact LeO.none _)
   | (with_reducible refine LeO.ite ?_ ?_)
   | (with_reducible refine LeO.bind ?_ (fun _ => ?_))
   | exact ih0 _ _ _ _
   | exact LeO.none _
   | refine LeO.ite ?_ ?_
   | refine LeO.bind ?_ (fun _ => ?_)
theorem codec_low.mono : ∀ a0 a1 k, LeO (codec_low.f k a0 a1) (codec_low.f (k + 1) a0 a1) := by
 intro a0 a1 k
 have ih0 := codec_low.mono_l k
 unfold codec_low.f
 repeat' first
   | (with_reducible exact ih0 _ _ _ _)
   | (with_reducible exact LeO.refl _)
   | (with_reducible exact LeO.none _)
   | (with_reducible refine LeO.ite ?_ ?_)
   | (with_reducible refine LeO.bind ?_ (fun _ => ?_))
   | exact ih0 _ _ _ _
   | exact LeO.none _
   | refine LeO.ite ?_ ?_
   | refine LeO.bind ?_ (fun _ => ?_)
set_option maxHeartbeats 8000000 in
set_option maxRecDepth 100000 in
theorem codec_low.calls (k : Nat) (a0 : Int) (a1 : Int) (r : ByteArray) (w : World) (h : codec_low.f k a0 a1 = some r) :
  Calls Try.prog 109 #[.int .u64 a0, .int .i64 a1] w fun e w' => e = .returned (.string r) ∧ Below w.heap.size w w' := by
 have HB := Aside0.mk (Below.refl w.heap.size w)
 have H : (if 0 ≤ a1 then (if (a1 : Int).toNat ≤ 281474976710656 then ((some (List.replicate (a1 : Int).toNat 0 : List Int)).bind fun y103 => (codec_low.l0 k a0 y103 (y103.length : Int) 0)) else (none)) else (none)) = some r := h
 clear h
 by_cases c3 : 0 ≤ a1
 ·rw [if_pos c3] at H
  have c3b0 := eq_true c3
  have c3b1 : decide (0 ≤ a1) = true := decide_eq_true c3
  clear c3
  by_cases c4 : (a1 : Int).toNat ≤ 281474976710656
  ·rw [if_pos c4] at H
   have c4b0 := eq_true c4
   have c4b1 : decide ((a1 : Int).toNat ≤ 281474976710656) = true := decide_eq_true c4
   clear c4
   obtain ⟨y103, hy103⟩ : ∃ y_ : List Int, y_ = (List.replicate (a1 : Int).toNat 0) := ⟨_, rfl⟩
   replace H : (codec_low.l0 k a0 y103 (y103.length : Int) 0) = some r := by first | (rw [hy103]; with_reducible exact H) | (have H2_ := (Option.bind_some _ _).symm.trans H; rw [hy103]; with_reducible exact H2_) | (have H2_ := (Option.bind_some _ _).symm.trans H; with_reducible exact H2_) | with_reducible exact H | (rw [hy103]; exact H) | exact H
   have Ny103 := Aside0.mk hy103
   clear hy103
   have H' := Aside0.mk H
   clear H
   go_enter Try.func109, Try.ntmps109
   go_wp2_with (first | ((with_reducible refine gate_dst (N := 8) rfl ?_); refine Kd.R_make (Kd.int .u8) _ 5 rfl (N := 8) rfl 37 _ _ rfl a1 rfl rfl Try.underlying37 (.int .u8 0) 1 info5 rfl (by decide) (by omega) 0 (ok := fun _ => True) (okp := fun _ => True) rfl (fun _ hk => hk) trivial (of_decide_eq_true (by first | (with_reducible assumption) | assumption)) (Nat.le_trans (Nat.mul_le_mul_right _ (of_decide_eq_true (by first | (with_reducible assumption) | assumption) : a1.toNat ≤ 281474976710656)) (by omega)) (Below.refl _ _) (Nat.le_refl _) ?_; intro v104 w5 ho6 hb hg_ hnew_; clear hg_ hnew_; (first | rw [← Ny103.out] at ho6 | (simp only [Int.reduceToNat] at ho6; rw [← Ny103.out] at ho6)); have n0_ := Aside0.mk (Kd.R_lower ho6 (below_size (by repeat (first | (with_reducible first | exact HB.out | apply below_alloc | apply pw_below_drewN | apply below_drew1) | exact HB.out)))); have n1_ := Aside0.mk (below_step (by repeat (first | (with_reducible first | exact HB.out | apply below_alloc | apply pw_below_drewN | apply below_drew1) | exact HB.out)) hb); clear HB; have HO105 := n0_; have HB := n1_; clear n0_ n1_; clear hb ho6; obtain ⟨Ao7, co7, eo7⟩ := Kd.R_slice HO105.out; subst eo7))
   go_loopg [11] k (fun kq v11 w' => ∃ (x5_1 : List Int) (x11_1 : Int), v11 = .int .i64 x11_1 ∧ Aside0 (codec_low.l0 kq a0 x5_1 (y103.length : Int) x11_1 = some r) ∧ Aside0 (kq ≤ k) ∧ Aside0 (Kd.R (Kd.int .u8) 5 w' w.heap.size (fun _ => True) (.slice Ao7 y103.length co7) x5_1) ∧ Aside0 (Below w.heap.size w w'))
   case atStart => exact ⟨(y103), (0), (by first | rfl | (simp; done) | (simp [*]; done)), H', ⟨Nat.le_refl _⟩, ⟨by (with_reducible repeat (first | apply Kd.R_alloc | apply Kd.R_drewN | apply Kd.R_drew)); exact HO105.out⟩, ⟨by repeat (first | (with_reducible first | exact HB.out | apply below_alloc | apply pw_below_drewN | apply below_drew1) | exact HB.out)⟩⟩
   case round =>
    clear H'
    try clear c1
    try clear p2
    try clear c3
    try clear c3b0
    try clear c3b1
    try clear c4
    try clear c4b0
    try clear c4b1
    obtain ⟨x5_1, x11_1, rfl, HA, HK1, HO_5, HB⟩ := hrel
    have hl5_1 := (Kd.R_reads' HO_5.out).1
    rw [hl5_1] at HO_5
    (try simp only [hl5_1])
    cases gk with
    | zero => exact absurd HA.out (by simp [codec_low.l0])
    | succ k1 =>
     have H := HA.out
     clear HA
     simp only [codec_low.l0] at H
     by_cases c8 : x11_1 < (y103.length : Int)
     ·rw [if_pos c8] at H
      have c8b0 : decide (x11_1 < (y103.length : Int)) = true := decide_eq_true c8
      clear c8
      obtain ⟨ji9, hji9⟩ : ∃ j_ : Int, (wrap64 (8 * x11_1)) = j_ := ⟨_, rfl⟩
      replace H : (if 0 ≤ (ji9) then (if 0 ≤ x11_1 then (if x11_1 < (x5_1.length : Int) then (codec_low.l0 k1 a0 (x5_1.set (x11_1 : Int).toNat ((shr .u64 a0 (ji9)) % 256)) (y103.length : Int) (wrap64 (x11_1 + 1))) else (none)) else (none)) else (none)) = some r := by first | (rw [hji9] at H; exact H) | (simp only [hji9] at H ⊢; exact H)
      have hji9w : (IntKind.i64.wrap (8 * x11_1)) = ji9 := (i64_w _).trans hji9
      by_cases c10 : 0 ≤ (ji9)
      ·rw [if_pos c10] at H
       have c10b0 := eq_true c10
       have c10b1 : decide (0 ≤ (ji9)) = true := decide_eq_true c10
       clear c10
       obtain ⟨ji11, hji11⟩ : ∃ j_ : Int, (shr .u64 a0 (ji9)) = j_ := ⟨_, rfl⟩
       replace H : (if 0 ≤ x11_1 then (if x11_1 < (x5_1.length : Int) then (codec_low.l0 k1 a0 (x5_1.set (x11_1 : Int).toNat ((ji11) % 256)) (y103.length : Int) (wrap64 (x11_1 + 1))) else (none)) else (none)) = some r := by first | (rw [hji11] at H; exact H) | (simp only [hji11] at H ⊢; exact H)
       have hji11_ : (a0 / 2 ^ min (ji9).toNat 64) = ji11 := hji11
       have hji11z : (ji9) ≤ 64 → (a0 / 2 ^ (ji9).toNat) = ji11 := shr_small hji11
       by_cases c12 : 0 ≤ x11_1
       ·rw [if_pos c12] at H
        have c12b0 : decide (0 ≤ x11_1) = true := decide_eq_true c12
        clear c12
        by_cases c13 : x11_1 < (x5_1.length : Int)
        ·rw [if_pos c13] at H
         have c13b0 : decide (x11_1 < (x5_1.length : Int)) = true := decide_eq_true c13
         clear c13
         obtain ⟨y106, hy106⟩ : ∃ y_ : List Int, y_ = (x5_1.set (x11_1 : Int).toNat ((ji11) % 256)) := ⟨_, rfl⟩
         replace H : (codec_low.l0 k1 a0 y106 (y103.length : Int) (wrap64 (x11_1 + 1))) = some r := by first | (rw [hy106]; with_reducible exact H) | (have H2_ := (Option.bind_some _ _).symm.trans H; rw [hy106]; with_reducible exact H2_) | (have H2_ := (Option.bind_some _ _).symm.trans H; with_reducible exact H2_) | with_reducible exact H | (rw [hy106]; exact H) | exact H
         have Ny106 := Aside0.mk hy106
         clear hy106
         have H' := Aside0.mk H
         clear H
         have p14 : 0 ≤ (x11_1 : Int) := of_decide_eq_true (by first | (with_reducible assumption) | assumption)
         have q14 : (x11_1 : Int) < ((x5_1.length : Int) : Int) := of_decide_eq_true (by first | (with_reducible assumption) | assumption)
         obtain ⟨go14, co14, eo14, gb14, gl14, cl14, HG14⟩ := Kd.R_form HO_5.out (by omega)
         (first | cases eo14 | (injection eo14 with ea_ en_ ec_; (first | subst ea_ | (injection ea_ with ea_; subst ea_)); subst ec_; clear en_))
         have GB14 := Aside0.mk gb14
         have GG14 := Aside0.mk HG14
         clear gb14 gl14 HG14
         obtain ⟨hx14_0, hf14_0⟩ := Kd.R_celln 0 HO_5.out (x11_1 : Int) p14 q14
         replace p14 := eq_true p14
         replace q14 := eq_true q14
         have HP15 := Kd.R_putg HO_5.out (x11_1 : Int) ((ji11) % 256)
         go_wp2_with (first | ((with_reducible refine gate_store (t := 5) (p := 21) rfl ?_); refine store_event (t := 5) (p := 21) (v := ?vo_w16) (w1 := (wr.setCell ⟨go14, (x11_1 : Int).toNat, none⟩ (.int .u8 ((ji11) % 256)))) ?hg ?ho ?hn ?hr ?_; (case ho => rfl); (case hg => rfl); (case hn => rfl); (case hr => first | (go_simp; done) | (go_simp; rfl)); intro w16 hw; have hg : wr.grownBy w16 (some go14) := (by rw [hw]; exact HP15.2); have hp_ : Kd.R (Kd.int .u8) 5 w16 w.heap.size (fun _ => True) (.slice (some ⟨go14, 0, none⟩) x5_1.length co7) y106 := (by rw [hw, Ny106.out]; exact HP15.1); clear HP15; have n0_ := Aside0.mk (hp_); have n1_ := Aside0.mk ((by rw [hw]; exact below_set (HB.out) GB14.out : Below w.heap.size w w16)); clear HO_5; clear HB; have HO_5 := n0_; have HB := n1_; clear n0_ n1_; clear hg hw hp_))
         (try simp only [← hl5_1])
         go_roundg k1
         case measure => have := HK1.out; omega
         case rel => exact ⟨(y106), (wrap64 (x11_1 + 1)), (by first | rfl | (simp; done) | (simp [*]; done)), H', ⟨by have := HK1.out; omega⟩, ⟨by (try simp only [hl5_1]); (with_reducible repeat (first | apply Kd.R_alloc | apply Kd.R_drewN | apply Kd.R_drew)); exact HO_5.out⟩, ⟨by repeat (first | (with_reducible first | exact HB.out | apply below_alloc | apply pw_below_drewN | apply below_drew1) | exact HB.out)⟩⟩
        ·rw [if_neg c13] at H
         exact absurd H (by simp)
       ·rw [if_neg c12] at H
        exact absurd H (by simp)
      ·rw [if_neg c10] at H
       exact absurd H (by simp)
     ·rw [if_neg c8] at H
      have c8b0 : decide (x11_1 < (y103.length : Int)) = false := decide_eq_false c8
      clear c8
      (try simp only [hl5_1] at c8b0)
      obtain rfl := Option.some.inj H
      have hcv17 := own_string (P := Try.prog) Try.underlying37 Try.underlying5 Try.underlying9 (Kd.own_of_R HO_5.out)
      (try simp only [hl5_1] at hcv17)
      go_wp2
      go_ret
      exact ⟨by first | rfl | (simp [errW_none, errW_some] <;> rfl) | (simp [*, errW_none, errW_some] <;> rfl), by repeat (first | (with_reducible first | exact HB.out | apply below_alloc | apply pw_below_drewN | apply below_drew1) | exact HB.out)⟩
  ·rw [if_neg c4] at H
   exact absurd H (by simp)
 ·rw [if_neg c3] at H
  exact absurd H (by simp)
/-! ### codec_Text: function 82 -/
def codec_Text.f (k : Nat) (a0 : ByteArray) : Option (ByteArray × Int) := if (a0.size : Int) > 4096 then (some ((⟨#[]⟩ : ByteArray), 4)) else ((codec_low.f k (IntKind.u64.wrap ((a0.size : Int))) 2).bind fun t107 => (if t107.size + a0.size ≤ 9223372036854775807 then (some (t107 ++ a0, 0)) else (none)))
theorem codec_Text.mono : ∀ a0 k, LeO (codec_Text.f k a0) (codec_Text.f (k + 1) a0) := by
 intro a0 k
 unfold codec_Text.f
 repeat' first
   | (with_reducible exact codec_low.mono _ _ _)
   | (with_reducible exact LeO.refl _)
   | (with_reducible exact LeO.none _)
   | (with_reducible refine LeO.ite ?_ ?_)
   | (with_reducible refine LeO.bind ?_ (fun _ => ?_))
   | exact codec_low.mono _ _ _
   | exact LeO.none _
   | refine LeO.ite ?_ ?_
   | refine LeO.bind ?_ (fun _ => ?_)
set_option maxHeartbeats 8000000 in
set_option maxRecDepth 100000 in
theorem codec_Text.calls (k : Nat) (a0 : ByteArray) (r1 : ByteArray) (r2 : Int) (w : World) (h : codec_Text.f k a0 = some (r1, r2)) :
  Calls Try.prog 82 #[.string a0] w fun e w' => e = .returned (.tuple #[.string r1, .int .i64 r2]) ∧ Below w.heap.size w w' := by
 have HB := Aside0.mk (Below.refl w.heap.size w)
 have H : (if (a0.size : Int) > 4096 then (some ((⟨#[]⟩ : ByteArray), 4)) else ((codec_low.f k (IntKind.u64.wrap ((a0.size : Int))) 2).bind fun t107 => (if t107.size + a0.size ≤ 9223372036854775807 then (some (t107 ++ a0, 0)) else (none)))) = some (r1, r2) := h
 clear h
 by_cases c2 : (a0.size : Int) > 4096
 ·rw [if_pos c2] at H
  have c2b0 : decide (4096 < (a0.size : Int)) = true := decide_eq_true c2
  have c2b1 : decide (4096 < a0.size) = true := decide_eq_true (by omega)
  clear c2
  simp only [Option.some.injEq, Prod.mk.injEq] at H
  obtain ⟨rfl, rfl⟩ := H
  go_enter Try.func82, Try.ntmps82
  go_wp2
  go_ret2
  exact ⟨by first | rfl | (simp [errW_none, errW_some] <;> rfl) | (simp [*, errW_none, errW_some] <;> rfl), by repeat (first | (with_reducible first | exact HB.out | apply below_alloc | apply pw_below_drewN | apply below_drew1) | exact HB.out)⟩
 ·rw [if_neg c2] at H
  have c2b0 : decide (4096 < (a0.size : Int)) = false := decide_eq_false c2
  have c2b1 : decide (4096 < a0.size) = false := decide_eq_false (by omega)
  clear c2
  replace H := Option.bind_eq_some_iff.mp H
  obtain ⟨t107, A30, H⟩ := H
  (try dsimp only at H)
  have A3 := Aside0.mk A30
  clear A30
  have hw_ : IntKind.u64.wrap ((a0.size : Int)) = (a0.size : Int) := by have h_ := of_decide_eq_false c2b1; rw [IntKind.wrap_u64]; omega
  rw [hw_] at A3
  clear hw_
  by_cases c4 : t107.size + a0.size ≤ 9223372036854775807
  ·rw [if_pos c4] at H
   have c4b0 := eq_true c4
   have c4b1 : decide (t107.size + a0.size ≤ 9223372036854775807) = true := decide_eq_true c4
   try have c4b2 : (9223372036854775807 < t107.size + a0.size) = False := eq_false (Nat.not_lt.2 c4)
   simp only [Option.some.injEq, Prod.mk.injEq] at H
   obtain ⟨rfl, rfl⟩ := H
   go_enter Try.func82, Try.ntmps82
   go_wp2_with (first | ((with_reducible refine gate_callee (f := 109) rfl ?_); refine goesL_ (some 10) rfl rfl Try.func109 (by kernel_rfl) rfl #[.int .u64 (a0.size : Int), .int .i64 2] rfl (by (try simp only [List.map_toArray, List.map_cons, List.map_nil]); first | done | rfl | (simp only [List.length_drop, List.length_take]; rfl)) ?_; (with_reducible refine (codec_low.calls k (a0.size : Int) 2 t107 _ A3.out).mono ?_); rintro e w5 ⟨rfl, hb⟩; refine ⟨_, rfl, ?_⟩; have n0_ := Aside0.mk (below_step (by repeat (first | (with_reducible first | exact HB.out | apply below_alloc | apply pw_below_drewN | apply below_drew1) | exact HB.out)) hb); clear HB; have HB := n0_; clear n0_; (try clear hb); (try clear hb2); (try clear hk); (try clear hi)))
   go_ret2
   exact ⟨by first | rfl | (simp [errW_none, errW_some] <;> rfl) | (simp [*, errW_none, errW_some] <;> rfl), by repeat (first | (with_reducible first | exact HB.out | apply below_alloc | apply pw_below_drewN | apply below_drew1) | exact HB.out)⟩
  ·rw [if_neg c4] at H
   exact absurd H (by simp)
/-! ### codec_Number: function 91 -/
def codec_Number.f (k : Nat) (a0 : Int) : Option (ByteArray) := (codec_low.f k a0 8).bind fun t108 => (some t108)
theorem codec_Number.mono : ∀ a0 k, LeO (codec_Number.f k a0) (codec_Number.f (k + 1) a0) := by
 intro a0 k
 unfold codec_Number.f
 repeat' first
   | (with_reducible exact codec_low.mono _ _ _)
   | (with_reducible exact LeO.refl _)
   | (with_reducible exact LeO.none _)
   | (with_reducible refine LeO.ite ?_ ?_)
   | (with_reducible refine LeO.bind ?_ (fun _ => ?_))
   | exact codec_low.mono _ _ _
   | exact LeO.none _
   | refine LeO.ite ?_ ?_
   | refine LeO.bind ?_ (fun _ => ?_)
set_option maxHeartbeats 8000000 in
set_option maxRecDepth 100000 in
theorem codec_Number.calls (k : Nat) (a0 : Int) (r : ByteArray) (w : World) (h : codec_Number.f k a0 = some r) :
  Calls Try.prog 91 #[.int .u64 a0] w fun e w' => e = .returned (.string r) ∧ Below w.heap.size w w' := by
 have HB := Aside0.mk (Below.refl w.heap.size w)
 have H : ((codec_low.f k a0 8).bind fun t108 => (some t108)) = some r := h
 clear h
 replace H := Option.bind_eq_some_iff.mp H
 obtain ⟨t108, A20, H⟩ := H
 (try dsimp only at H)
 have A2 := Aside0.mk A20
 clear A20
 obtain rfl := Option.some.inj H
 go_enter Try.func91, Try.ntmps91
 go_wp2_with (first | ((with_reducible refine gate_callee (f := 109) rfl ?_); refine goesL_ (some 4) rfl rfl Try.func109 (by kernel_rfl) rfl #[.int .u64 a0, .int .i64 8] rfl (by (try simp only [List.map_toArray, List.map_cons, List.map_nil]); first | done | rfl | (simp only [List.length_drop, List.length_take]; rfl)) ?_; (with_reducible refine (codec_low.calls k a0 8 t108 _ A2.out).mono ?_); rintro e w3 ⟨rfl, hb⟩; refine ⟨_, rfl, ?_⟩; have n0_ := Aside0.mk (below_step (by repeat (first | (with_reducible first | exact HB.out | apply below_alloc | apply pw_below_drewN | apply below_drew1) | exact HB.out)) hb); clear HB; have HB := n0_; clear n0_; (try clear hb); (try clear hb2); (try clear hk); (try clear hi)))
 go_ret
 exact ⟨by first | rfl | (simp [errW_none, errW_some] <;> rfl) | (simp [*, errW_none, errW_some] <;> rfl), by repeat (first | (with_reducible first | exact HB.out | apply below_alloc | apply pw_below_drewN | apply below_drew1) | exact HB.out)⟩
/-! ### saltusref02_Low: function 93 -/
/-! ### saltusref02_One: function 85 -/
end Go.Proofs.Ytolbhliepkcihaa.QTB
end
section
namespace Go.Proofs.Ytolbhliepkcihaa.Trust
open Go.RowKit Go.Proofs.Ytolbhliepkcihaa.Mem Go.Proofs.Ytolbhliepkcihaa.Sha Go.Proofs.Ytolbhliepkcihaa.Mac Go.Proofs.YtolbhliepkcihaaW.PrintWords Go.Proofs.YtolbhliepkcihaaW.PrintLast Go.Proofs.YtolbhliepkcihaaW.PrintMore
def valN (t : ByteArray) : Nat → Nat
 | 0 => 0
 | n + 1 => valN t n + bn t n * 256 ^ n
theorem valN_lt (t : ByteArray) : ∀ n, valN t n < 256 ^ n
 | 0 => by show 0 < 1; decide
 | n + 1 => by
  have h1 := valN_lt t n
  have h2 := bn_lt t n
  have h3 : bn t n * 256 ^ n ≤ 255 * 256 ^ n := Nat.mul_le_mul_right _ (by omega)
  show valN t n + bn t n * 256 ^ n < 256 ^ (n + 1)
  rw [Nat.pow_succ]
  omega
theorem val_or (a c n : Nat) (ha : a < 256 ^ n) (hc : c < 256) (hn : n < 8) : bits .or .u64 (a : Int) ((c * 256 ^ n : Nat) : Int) = ((a + c * 256 ^ n : Nat) : Int) := by
 have h8 : 256 ^ n * 256 ≤ 18446744073709551616 := by
  have h := Nat.pow_le_pow_right (show 0 < 256 by decide) (show n + 1 ≤ 8 by omega)
  rw [Nat.pow_succ] at h
  exact h
 have h3 : c * 256 ^ n ≤ 255 * 256 ^ n := Nat.mul_le_mul_right _ (by omega)
 have e2 : (256 : Nat) ^ n = 2 ^ (8 * n) := by rw [Nat.pow_mul]
 show IntKind.u64.wrap ((BitVec.ofInt 64 (a : Int) ||| BitVec.ofInt 64 ((c * 256 ^ n : Nat) : Int)).toNat : Int) = _
 rw [BitVec.ofInt_natCast, BitVec.ofInt_natCast, BitVec.toNat_or, BitVec.toNat_ofNat, BitVec.toNat_ofNat, Nat.mod_eq_of_lt (by omega), Nat.mod_eq_of_lt (by omega)]
 have h4 : a ||| c * 256 ^ n = a + c * 256 ^ n := by
  have h5 := Nat.shiftLeft_add_eq_or_of_lt (b := a) (i := 8 * n) (by rw [← e2]; exact ha) c
  rw [Nat.shiftLeft_eq, ← e2] at h5
  rw [Nat.or_comm, ← h5, Nat.add_comm]
 have h6 : a + c * 256 ^ n < 18446744073709551616 := by omega
 rw [h4]
 generalize a + c * 256 ^ n = s at *
 rw [IntKind.wrap_u64]
 omega
theorem val_shl (a c n : Nat) (ha : a < 256 ^ n) (hc : c < 256) (hn : n < 8) : bits .or .u64 (a : Int) (IntKind.u64.wrap ((c : Int) * 2 ^ (8 * n))) = ((a + c * 256 ^ n : Nat) : Int) := by
 have h8 : 256 ^ n * 256 ≤ 18446744073709551616 := by
  have h := Nat.pow_le_pow_right (show 0 < 256 by decide) (show n + 1 ≤ 8 by omega)
  rw [Nat.pow_succ] at h
  exact h
 have h3 : c * 256 ^ n ≤ 255 * 256 ^ n := Nat.mul_le_mul_right _ (by omega)
 have e2 : ((c : Int) * 2 ^ (8 * n)) = ((c * 256 ^ n : Nat) : Int) := by
  rw [Int.natCast_mul, Int.natCast_pow, Int.pow_mul]
  rfl
 rw [e2, ← val_or a c n ha hc hn]
 congr 1
 generalize c * 256 ^ n = s at *
 rw [IntKind.wrap_u64]
 omega
theorem bn_cut (t : ByteArray) (n i : Nat) (hi : i < n) (hn : n ≤ t.size) : bn (t.extract 0 n) i = bn t i := by
 have hz : i < (t.extract 0 n).size := by rw [ByteArray.size_extract]; omega
 rw [← bn_at _ _ hz, ← bn_at _ _ (by omega), ByteArray.getElem_extract]
 congr 2
 omega
theorem val_cut (t : ByteArray) (n : Nat) (hn : n ≤ t.size) : ∀ i, i ≤ n → valN (t.extract 0 n) i = valN t i
 | 0, _ => rfl
 | i + 1, hi => by
  show valN (t.extract 0 n) i + bn (t.extract 0 n) i * 256 ^ i = _
  rw [val_cut t n hn i (by omega), bn_cut t n i (by omega) hn]
  rfl
set_option maxRecDepth 100000 in
set_option maxHeartbeats 4000000 in
theorem word_any (key text : ByteArray) (hk : key.size ≤ 1000000000) (ht : text.size ≤ 1000000000) (w : World) :
  Calls Try.prog 44 #[.string key, .string text] w fun e w' => e = .returned (.int .u64 ((valN (tagS key text) 8 : Nat) : Int)) ∧ Below w.heap.size w w' := by
 have HT := Lib.hid (mac_Tag.calls key text (tagS key text) · (if_pos ⟨hk, ht⟩))
 have hz := tag_size key text
 generalize tagS key text = t at *
 obtain ⟨g0, hg0⟩ : ∃ g0, w.heap.size = g0 := ⟨_, rfl⟩
 have b0 : Below g0 w w := by rw [← hg0]; exact Below.refl _ _
 have HG0 := Lib.hid hg0
 rw [hg0]
 clear hg0
 go_enter Try.func44, Try.ntmps44
 go_wp2_with fail
 refine (HT.out _).mono ?_
 rintro e w1 ⟨rfl, hb1⟩
 rw [HG0.out] at hb1
 have hle : g0 ≤ w1.heap.size := by have h := hb1.size; rw [HG0.out] at h; exact h
 clear b0 HT
 obtain ⟨k, hkk⟩ : ∃ k, t.extract 0 8 = k := ⟨_, rfl⟩
 have hzk : k.size = 8 := by rw [← hkk, ByteArray.size_extract]; omega
 have hcv := Lib.run_convert_string_bytes (P := Try.prog) w1 9 37 5 k Try.underlying9 Try.underlying37 Try.underlying5
 rw [hzk] at hcv
 obtain ⟨g, hg⟩ : ∃ g, w1.heap.size = g := ⟨_, rfl⟩
 have b1 : Below g0 w (Lib.bytesWorld w1 5 k) :=
  hb1.trans ⟨rfl, rfl, rfl, by rw [Lib.bytesWorld_size]; omega, fun i hi => Lib.bytesWorld_at_old w1 5 k i (by omega)⟩
 have c1 : ∀ j, j < 8 → (Lib.bytesWorld w1 5 k).cell? ⟨g, j, none⟩ = some (.int .u8 ((bn k j : Nat) : Int)) := fun j hj => by
  rw [← hg, Lib.bytesWorld_cell w1 5 k j (by omega), data_bn k j (by omega)]
 generalize grownCap w1 8 0 5 = cap at *
 have C1 := Lib.hid c1
 have HKK := Lib.hid hkk
 have hzt : (8 : Int) ≤ (t.size : Int) := by omega
 rw [hg] at hcv
 have HCV := Lib.hid hcv
 clear c1 hg hb1 hkk hcv
 have hkk2 := HKK.out
 have hcv2 := HCV.out
 go_wp2
 clear hkk2 hcv2
 have B1 := Lib.hid b1
 clear b1
 generalize Lib.bytesWorld w1 5 k = w2 at *
 go_loop [5, 14] (fun o i => ∃ j : Nat, j ≤ 8 ∧ i = .int .i64 j ∧ o = .int .u64 ((valN k j : Nat) : Int)) (fun _ i => 8 - (intOf i).toNat)
 case atStart => exact ⟨0, by omega, rfl, rfl⟩
 case round =>
  obtain ⟨j, hj, rfl, rfl⟩ := hrel
  by_cases hlt : j < 8
  ·have cj := C1.out j hlt
   have i0 : (0 : Int) ≤ (j : Int) := by omega
   have i1 : (j : Int) < 8 := by omega
   have l0 : (0 : Int) ≤ ((bn k j : Nat) : Int) := by omega
   have l1 : ((bn k j : Nat) : Int) ≤ 255 := by have := bn_lt k j; omega
   have hor : bits .or .u64 ((valN k j : Nat) : Int) (IntKind.u64.wrap (((bn k j : Nat) : Int) * 2 ^ (8 * j))) = ((valN k (j + 1) : Nat) : Int) := val_shl (valN k j) (bn k j) j (valN_lt k j) (bn_lt k j) hlt
   go_wp2
   exact ⟨⟨j + 1, by omega, by go_num, rfl⟩, by simp [intOf]; omega⟩
  ·obtain rfl : j = 8 := by omega
   rw [← HKK.out, val_cut t 8 (by omega) 8 (by omega)]
   go_wp2
   go_ret
   exact ⟨rfl, B1.out⟩
end Go.Proofs.Ytolbhliepkcihaa.Trust
end
section
namespace Go.Proofs.Ytolbhliepkcihaa.Codec
open Go.RowKit Go.Proofs.YtolbhliepkcihaaW.PrintWords Go.Proofs.YtolbhliepkcihaaW.PrintLast Go.Proofs.YtolbhliepkcihaaW.PrintMore Go.Proofs.Ytolbhliepkcihaa.Sha Go.Proofs.Ytolbhliepkcihaa.Mac Go.Proofs.Ytolbhliepkcihaa.Trust
def lowL (n many : Nat) : List Nat := (List.range many).map fun i => n / 256 ^ i % 256
def lowS (n many : Nat) : ByteArray := ofNats (lowL n many)
def numS (n : Nat) : ByteArray := lowS n 8
def textS (s : ByteArray) : ByteArray := lowS s.size 2 ++ s
def wordN (key text : ByteArray) : Nat := valN (tagS key text) 8
theorem lowS_size (n many : Nat) : (lowS n many).size = many := by unfold lowS lowL; rw [ofNats_size]; simp
theorem numS_size (n : Nat) : (numS n).size = 8 := lowS_size n 8
theorem textS_size (s : ByteArray) : (textS s).size = s.size + 2 := by unfold textS; rw [ByteArray.size_append, lowS_size]; omega
theorem wordN_lt (key text : ByteArray) : wordN key text < 18446744073709551616 := valN_lt (tagS key text) 8
def lowI (n many i : Nat) : List Int := (List.range many).map fun j => if j < i then ((n / 256 ^ j % 256 : Nat) : Int) else 0
theorem lowI_len (n many i : Nat) : (lowI n many i).length = many := by unfold lowI; simp
theorem lowI_zero (n many : Nat) : List.replicate many (0 : Int) = lowI n many 0 := by
 unfold lowI
 apply List.ext_getElem
 ·simp
 ·intro i h1 h2
  simp
theorem lowI_all (n many : Nat) : lowI n many many = ints (lowL n many) := by
 unfold lowI lowL ints
 rw [List.map_map]
 apply List.map_congr_left
 intro j hj
 rw [if_pos (List.mem_range.1 hj)]
 rfl
theorem lowI_at (n many i j : Nat) (h : j < (lowI n many i).length) : (lowI n many i)[j] = if j < i then ((n / 256 ^ j % 256 : Nat) : Int) else 0 := by
 simp [lowI]
theorem lowI_set (n many i : Nat) (_ : i < many) : (lowI n many i).set i ((n / 256 ^ i % 256 : Nat) : Int) = lowI n many (i + 1) := by
 apply List.ext_getElem
 ·rw [List.length_set, lowI_len, lowI_len]
 ·intro j h1 h2
  rw [List.getElem_set, lowI_at, lowI_at]
  by_cases hij : i = j
  ·subst hij
   rw [if_pos rfl, if_pos (by omega)]
  ·rw [if_neg hij]
   by_cases h : j < i
   ·rw [if_pos h, if_pos (by omega)]
   ·rw [if_neg h, if_neg (by omega)]
theorem shr_at (n i : Nat) (hi : i < 8) : shr .u64 (n : Int) (wrap64 (8 * (i : Int))) % 256 = ((n / 256 ^ i % 256 : Nat) : Int) := by
 have e1 : wrap64 (8 * (i : Int)) = ((8 * i : Nat) : Int) := by unfold wrap64; omega
 have e2 : shr .u64 (n : Int) (((8 * i : Nat) : Int)) = (n : Int) / 2 ^ min (((8 * i : Nat) : Int)).toNat 64 := rfl
 have e3 : (256 : Nat) ^ i = 2 ^ (8 * i) := by rw [Nat.pow_mul]
 rw [e1, e2, Int.toNat_natCast, Nat.min_eq_left (by omega), e3]
 have e4 : ((2 : Int) ^ (8 * i)) = ((2 ^ (8 * i) : Nat) : Int) := by rw [Int.natCast_pow]; rfl
 rw [e4, ← Int.natCast_ediv]
 omega
theorem low_l0 (n many : Nat) (hm : many ≤ 8) (d : Nat) : ∀ (k i : Nat), i + d = many → d < k →
  QTB.codec_low.l0 k (n : Int) (lowI n many i) ((lowI n many 0).length : Int) (i : Int) = some (lowS n many) := by
 induction d with
 | zero =>
  intro k i hi hk
  obtain ⟨k, rfl⟩ : ∃ m, k = m + 1 := ⟨k - 1, by omega⟩
  have hl := lowI_len n many 0
  rw [QTB.codec_low.l0, if_neg (by omega)]
  obtain rfl : i = many := by omega
  rw [lowI_all, ofNats_eq]
  rfl
 | succ d ih =>
  intro k i hi hk
  obtain ⟨k, rfl⟩ : ∃ m, k = m + 1 := ⟨k - 1, by omega⟩
  have hl := lowI_len n many 0
  have hl2 := lowI_len n many i
  have e1 : wrap64 (8 * (i : Int)) = ((8 * i : Nat) : Int) := by unfold wrap64; omega
  have e2 : wrap64 ((i : Int) + 1) = ((i + 1 : Nat) : Int) := by unfold wrap64; omega
  rw [QTB.codec_low.l0, if_pos (by omega), if_pos (by rw [e1]; omega), if_pos (by omega), if_pos (by omega), shr_at n i (by omega), e2, Int.toNat_natCast, lowI_set n many i (by omega)]
  exact ih k (i + 1) (by omega) (by omega)
theorem low_f (n many : Nat) (hm : many ≤ 8) (k : Nat) (h : 8 < k) : QTB.codec_low.f k (n : Int) (many : Int) = some (lowS n many) := by
 unfold QTB.codec_low.f
 rw [if_pos (by omega), if_pos (by omega), Int.toNat_natCast, lowI_zero n many, Option.bind_some]
 exact low_l0 n many hm many k 0 (by omega) (by omega)
theorem number_f (n k : Nat) (h : 8 < k) : QTB.codec_Number.f k (n : Int) = some (numS n) := by
 unfold QTB.codec_Number.f
 have e := low_f n 8 (by decide) k h
 rw [show ((8 : Nat) : Int) = 8 from rfl] at e
 rw [e]
 rfl
theorem wrap_nat (n : Nat) (h : n < 18446744073709551616) : IntKind.u64.wrap (n : Int) = (n : Int) := by rw [IntKind.wrap_u64]; omega
theorem text_f (s : ByteArray) (hs : s.size ≤ 4096) (k : Nat) (h : 8 < k) : QTB.codec_Text.f k s = some (textS s, 0) := by
 unfold QTB.codec_Text.f
 have e := low_f s.size 2 (by decide) k h
 rw [show ((2 : Nat) : Int) = 2 from rfl] at e
 rw [if_neg (by omega), wrap_nat s.size (by omega), e, Option.bind_some, if_pos (by rw [lowS_size]; omega)]
 rfl
theorem text_no (s : ByteArray) (hs : 4096 < s.size) (k : Nat) : QTB.codec_Text.f k s = some (⟨#[]⟩, 4) := by
 unfold QTB.codec_Text.f
 rw [if_pos (by omega)]
end Go.Proofs.Ytolbhliepkcihaa.Codec
end
section
namespace Go.Proofs.Ytolbhliepkcihaa
open Go.RowKit Go.Proofs.YtolbhliepkcihaaW.PrintWords Go.Proofs.YtolbhliepkcihaaW.PrintLast Go.Proofs.YtolbhliepkcihaaW.PrintMore Go.Proofs.Ytolbhliepkcihaa.Sha Go.Proofs.Ytolbhliepkcihaa.Mac Go.Proofs.Ytolbhliepkcihaa.Trust Go.Proofs.Ytolbhliepkcihaa.Codec
def codec_Number.f (a0 : Int) : Option ByteArray := if 0 ≤ a0 ∧ a0 < 18446744073709551616 then some (numS a0.toNat) else none
theorem codec_Number.calls (a0 : Int) (r : ByteArray) (w : World) (h : codec_Number.f a0 = some r) :
  Calls Try.prog 91 #[.int .u64 a0] w fun e w' => e = .returned (.string r) ∧ Below w.heap.size w w' := by
 unfold codec_Number.f at h
 split at h
 ·rename_i hc
  obtain ⟨n, rfl⟩ := Int.eq_ofNat_of_zero_le hc.1
  exact QTB.codec_Number.calls 9 n r w ((number_f n 9 (by decide)).trans h)
 ·cases h
def codec_Text.f (a0 : ByteArray) : Option (ByteArray × Int) := if a0.size ≤ 4096 then some (textS a0, 0) else some (⟨#[]⟩, 4)
theorem codec_Text.calls (a0 : ByteArray) (r1 : ByteArray) (r2 : Int) (w : World) (h : codec_Text.f a0 = some (r1, r2)) :
  Calls Try.prog 82 #[.string a0] w fun e w' => e = .returned (.tuple #[.string r1, .int .i64 r2]) ∧ Below w.heap.size w w' := by
 unfold codec_Text.f at h
 split at h
 ·exact QTB.codec_Text.calls 9 a0 r1 r2 w ((text_f a0 (by assumption) 9 (by decide)).trans h)
 ·exact QTB.codec_Text.calls 9 a0 r1 r2 w ((text_no a0 (by omega) 9).trans h)
def trust_Word.f (a0 a1 : ByteArray) : Option Int := if a0.size ≤ 1000000000 ∧ a1.size ≤ 1000000000 then some ((wordN a0 a1 : Nat) : Int) else none
theorem trust_Word.calls (a0 a1 : ByteArray) (r : Int) (w : World) (h : trust_Word.f a0 a1 = some r) :
  Calls Try.prog 44 #[.string a0, .string a1] w fun e w' => e = .returned (.int .u64 r) ∧ Below w.heap.size w w' := by
 unfold trust_Word.f at h
 split at h
 ·rename_i hc
  obtain rfl := Option.some.inj h
  exact word_any a0 a1 hc.1 hc.2 w
 ·cases h
end Go.Proofs.Ytolbhliepkcihaa
end
