/- Joined by a program of this session (wip/pack.py) for this claim: Kinds, Tower, TowerStub. -/
import Derived.Test.YtolbhliepkcihaaGreatDoorProg
import Derived.Below
import Derived.Deep.Draws
import Derived.Deep.AppendLies
import Derived.Maps.AppendAt
import Derived.OwnWalk
import Derived.Laws.BytesArg
import Derived.Laws.MakeOwn
import Derived.Laws.OwnMore
import Derived.Deep.OwnRows
import Derived.Tactics
import Derived.Lib.ConvBytes
import Derived.Laws.Slices
import Derived.WalkKit
import Derived.KernelRfl
import Derived.RowKit3
import Derived.Deep.LoopGhost
import Derived.Deep.QuietTactic
import Derived.BigQuiet
import Derived.WideLaws
import Derived.Deep.DeepCutAuto
import Derived.Deep.CutBlock
import Derived.Deep.RegionHeld3
import Derived.Laws.Rows
import Derived.Lib.AppendStr
import Derived.ArgAppend
import Derived.Laws.IdiomCopy
import Derived.OrdersHeld
import Derived.Laws.BitsLemmas
import Derived.RowKit
import Derived.Test.YtolbhliepkcihaaGreatDoorPWa
import Derived.Test.YtolbhliepkcihaaGreatDoorBaseF
import Derived.Shelf.Spec.TrailingZeros
section
namespace Go.Proofs.YtolbhliepkcihaaGreatDoor.Kinds
open Go.RowKit YtolbhliepkcihaaGreatDoorW.PrintWords YtolbhliepkcihaaGreatDoorW.PrintLast YtolbhliepkcihaaGreatDoorW.PrintMore
attribute [local go_sem] max2_int min2_int max_two min_two max_three min_three max_four min_four   -- for this text's walks alone
set_option linter.unusedVariables false
set_option linter.unusedSimpArgs false
def errW : Option Int → Value
 | none => .nilIface
 | some c => .iface 0 (.int .i64 c)
theorem errW_none : errW none = .nilIface := rfl
theorem errW_some (c : Int) : errW (some c) = .iface 0 (.int .i64 c) := rfl
theorem info44 : (Tryz.prog.info? 44).map (fun i => (i.zero, i.size, i.bytes)) = some (some (.agg #[(.int .u64 0), (.string ⟨#[]⟩)]), 2, 24) := by kernel_rfl
/-! #### struct type 44 -/
structure S44 where
 f0 : Int
 f1 : ByteArray
def z44 : S44 := ⟨(0 : Int), (⟨#[]⟩ : ByteArray)⟩
def k44 : Kd S44 := Kd.iso (Kd.pair (Kd.int .u64) Kd.string) (fun x : S44 => (x.f0, x.f1))
theorem k44_open {w : World} {x : S44} {cs : List Value} (h : k44.K w x cs) : cs = [.int .u64 x.f0, .string x.f1] := by
 obtain ⟨_, _, rfl, rfl, rfl⟩ := h; exact rfl
theorem k44_mk (w : World) (x : S44)  : k44.K w x [.int .u64 x.f0, .string x.f1] := ⟨[.int .u64 x.f0], [.string x.f1], rfl, rfl, rfl⟩
def rd_T44 (xs : List S44) (i : Int) : S44 := xs.getD i.toNat z44
theorem at_T44 {w : World} {A : Option Addr} {n : Nat} {xs : List S44} (h : Kd.C k44 w A n xs) (i : Int) (h0 : 0 ≤ i) (h1 : i < n) : ∃ ad , A = some ad ∧ w.cell? (ad.add (i.toNat * 2)) = some (.int .u64 (rd_T44 xs i).f0) ∧ w.cell? ⟨(ad.add (i.toNat * 2)).block, (ad.add (i.toNat * 2)).off + 1, none⟩ = some (.string (rd_T44 xs i).f1) := by
 obtain ⟨ad, c, e, _, hK, hc0⟩ := Kd.C_get h z44 i h0 h1
 have hc : ∀ j u, c[j]? = some u → w.cell? (ad.add (i.toNat * 2 + j)) = some u := hc0
 obtain rfl := k44_open hK; exact ⟨ad, e, hc 0 _ rfl, by rw [← add_field _ _ 1 (by omega)]; exact hc 1 _ rfl⟩
/-! #### struct type 84 -/
structure S84 where
 f0 : Bool
 f1 : Int
 f2 : ByteArray
def z84 : S84 := ⟨false, (0 : Int), (⟨#[]⟩ : ByteArray)⟩
def k84 : Kd S84 := Kd.iso (Kd.pair Kd.bool (Kd.pair (Kd.int .u64) Kd.string)) (fun x : S84 => (x.f0, x.f1, x.f2))
theorem k84_open {w : World} {x : S84} {cs : List Value} (h : k84.K w x cs) : cs = [.bool x.f0, .int .u64 x.f1, .string x.f2] := by
 obtain ⟨_, _, rfl, rfl, ⟨_, _, rfl, rfl, rfl⟩⟩ := h; exact rfl
theorem k84_mkM (w : World) (base : Nat) (ok : Nat → Prop) (x : S84)  : k84.M w base ok x [.bool x.f0, .int .u64 x.f1, .string x.f2] := ⟨[.bool x.f0], [.int .u64 x.f1, .string x.f2], rfl, rfl, ⟨[.int .u64 x.f1], [.string x.f2], rfl, rfl, rfl⟩⟩
def rd_T84 (xs : List S84) (i : Int) : S84 := xs.getD i.toNat z84
theorem at_T84 {w : World} {A : Option Addr} {n : Nat} {xs : List S84} (h : Kd.C k84 w A n xs) (i : Int) (h0 : 0 ≤ i) (h1 : i < n) : ∃ ad , A = some ad ∧ w.cell? (ad.add (i.toNat * 3)) = some (.bool (rd_T84 xs i).f0) ∧ w.cell? ⟨(ad.add (i.toNat * 3)).block, (ad.add (i.toNat * 3)).off + 1, none⟩ = some (.int .u64 (rd_T84 xs i).f1) ∧ w.cell? ⟨(ad.add (i.toNat * 3)).block, (ad.add (i.toNat * 3)).off + 2, none⟩ = some (.string (rd_T84 xs i).f2) := by
 obtain ⟨ad, c, e, _, hK, hc0⟩ := Kd.C_get h z84 i h0 h1
 have hc : ∀ j u, c[j]? = some u → w.cell? (ad.add (i.toNat * 3 + j)) = some u := hc0
 obtain rfl := k84_open hK; exact ⟨ad, e, hc 0 _ rfl, by rw [← add_field _ _ 1 (by omega)]; exact hc 1 _ rfl, by rw [← add_field _ _ 2 (by omega)]; exact hc 2 _ rfl⟩
end Go.Proofs.YtolbhliepkcihaaGreatDoor.Kinds
end
section
namespace Go.Proofs.YtolbhliepkcihaaGreatDoor.Tower
open Go.RowKit Mem Sha Mac Codec YtolbhliepkcihaaGreatDoorW.PrintWords YtolbhliepkcihaaGreatDoorW.PrintLast YtolbhliepkcihaaGreatDoorW.PrintMore
def TabW (w : World) : Prop := ∀ j, j < 64 → w.cell? ⟨0, j, none⟩ = some (.int .u8 (Lib.deBruijn64tab.getD j 0))
theorem TabW.pos {w : World} (h : TabW w) : 0 < w.heap.size := by
 have := qd w _ (h 0 (by decide)); exact this
theorem tab_below {B : Nat} {w W : World} (h : TabW w) (hb : Below B w W) (hB : w.heap.size ≤ B) : TabW W := fun j hj => (hb.cell (p := ⟨0, j, none⟩) (Nat.lt_of_lt_of_le h.pos hB)).trans (h j hj)
set_option maxHeartbeats 1000000 in
theorem tz_core (x k idx : Nat) (w : World) (hx0 : ((x : Int) == 0) = false)
  (key : IntKind.u64.wrap (bits BinOp.and IntKind.u64 (x : Int) (IntKind.u64.wrap (-(x : Int))) * 285870213051353865) / 288230376151711744 = (idx : Int))
  (hi : idx < 64) (hk : k < 64) (hcell : w.cell? ⟨0, idx, none⟩ = some (.int .u8 k)) :
  Calls Tryz.prog 34 #[.int .u64 x] w fun e w' => e = .returned (.int .i64 k) ∧ w' = w := by
 go_enter Tryz.func34, Tryz.ntmps34
 go_wp2_with (simp only [key])
 go_ret; exact ⟨rfl, rfl⟩
theorem tz_zero (w : World) : Calls Tryz.prog 34 #[.int .u64 0] w fun e w' => e = .returned (.int .i64 64) ∧ w' = w := by
 go_enter Tryz.func34, Tryz.ntmps34
 go_wp2; go_ret; exact ⟨rfl, rfl⟩
theorem tz_any (x : Nat) (hx : x < 18446744073709551616) (w : World) (hT : TabW w) :
  Calls Tryz.prog 34 #[.int .u64 x] w fun e w' => e = .returned (.int .i64 (Lib.ctz 64 x)) ∧ w' = w := by
 by_cases hx0 : x = 0
 ·subst hx0; exact tz_zero w
 ·obtain ⟨hlow, hk⟩ := Lib.lowest_bit 64 x hx0 hx; obtain ⟨hi, htab⟩ := Lib.deBruijn64_at _ hk; have hcell := hT _ hi; rw [htab] at hcell; exact tz_core x _ _ w (by simp; omega) (tz64_key x _ hx hx0 hlow) hi hk hcell
def heightN (key : ByteArray) (n : Nat) : Nat := min (Lib.ctz 64 (wordN key (numS n)) + 1) 8
theorem ctz_le (f : Nat) : ∀ x, Lib.ctzFrom f x ≤ f := by
 induction f with
 | zero => intro x; exact Nat.le_refl _
 | succ f ih =>
  intro x; unfold Lib.ctzFrom
  split
  ·omega
  ·have := ih (x / 2)
   omega
theorem ctz64_le (x : Nat) : Lib.ctz 64 x ≤ 64 := by
 unfold Lib.ctz
 split
 ·exact Nat.le_refl _
 ·exact ctz_le 64 x
theorem height_lo (key : ByteArray) (n : Nat) : 1 ≤ heightN key n := by unfold heightN; omega
theorem height_hi (key : ByteArray) (n : Nat) : heightN key n ≤ 8 := by unfold heightN; omega
set_option maxRecDepth 100000 in
set_option maxHeartbeats 4000000 in
theorem height_any (key : ByteArray) (n : Nat) (hk : key.size ≤ 1000000000) (hn : n < 18446744073709551616) (w : World) (hT : TabW w) :
  Calls Tryz.prog 17 #[.string key, .int .u64 (n : Int)] w fun e w' => e = .returned (.int .i64 ((heightN key n : Nat) : Int)) ∧ Below w.heap.size w w' := by
 have HN := Lib.hid (codec_Number.calls (n : Int) (numS n) · (by unfold codec_Number.f; rw [if_pos ⟨by omega, by omega⟩, Int.toNat_natCast])); have HW := Lib.hid (trust_Word.calls key (numS n) ((wordN key (numS n) : Nat) : Int) · (if_pos ⟨hk, by rw [numS_size]; decide⟩)); have HZ := Lib.hid (fun W h => tz_any (wordN key (numS n)) (wordN_lt key (numS n)) W h); have HE : Hid (heightN key n = min (Lib.ctz 64 (wordN key (numS n)) + 1) 8) := Lib.hid rfl; have hc := ctz64_le (wordN key (numS n)); have HT := Lib.hid hT; clear hT; generalize heightN key n = h at *; generalize Lib.ctz 64 (wordN key (numS n)) = c at *; generalize wordN key (numS n) = x at *; generalize numS n = s at *
 go_enter Tryz.func17, Tryz.ntmps17
 go_wp2_with fail
 refine (HN.out _).mono ?_
 rintro e w1 ⟨rfl, hb1⟩
 go_wp2_with fail
 refine (HW.out _).mono ?_
 rintro e w2 ⟨rfl, hb2⟩
 have HB := Lib.hid (Bel.step hb1 hb2); clear hb1 hb2
 go_wp2_with fail
 refine (HZ.out _ (tab_below HT.out HB.out (Nat.le_refl _))).mono ?_
 rintro e w3 ⟨rfl, hw3⟩
 subst hw3
 have hcz : (0 : Int) ≤ (c : Int) := by omega
 have hcI : (c : Int) ≤ 64 := by omega
 have hmn : min ((c : Int) + 1) 8 = ((min (c + 1) 8 : Nat) : Int) := by omega
 go_wp2; go_ret; exact ⟨by rw [HE.out]; rfl, HB.out⟩
end Go.Proofs.YtolbhliepkcihaaGreatDoor.Tower
end
section
namespace Go.Proofs.YtolbhliepkcihaaGreatDoor
open Go.RowKit YtolbhliepkcihaaGreatDoorW.PrintWords YtolbhliepkcihaaGreatDoorW.PrintLast YtolbhliepkcihaaGreatDoorW.PrintMore Tower
def tower_Height.f (a0 : ByteArray) (a1 : Int) : Option Int := if a0.size ≤ 1000000000 ∧ 0 ≤ a1 ∧ a1 < 18446744073709551616 then some ((heightN a0 a1.toNat : Nat) : Int) else none
theorem tower_Height.calls (a0 : ByteArray) (a1 : Int) (r : Int) (w : World) (h : tower_Height.f a0 a1 = some r) (hT0 : TabW w) :
  Calls Tryz.prog 17 #[.string a0, .int .u64 a1] w fun e w' => e = .returned (.int .i64 r) ∧ Below w.heap.size w w' := by
 unfold tower_Height.f at h
 split at h
 ·rename_i hc; obtain rfl := Option.some.inj h; obtain ⟨n, rfl⟩ := Int.eq_ofNat_of_zero_le hc.2.1; exact height_any a0 n hc.1 (by omega) w hT0
 ·cases h
end Go.Proofs.YtolbhliepkcihaaGreatDoor
end
