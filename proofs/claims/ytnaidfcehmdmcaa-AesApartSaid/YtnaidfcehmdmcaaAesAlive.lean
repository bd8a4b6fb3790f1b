/- AES's own laws: what they ask of every input first (alive), and the plain facts on texts of 16 bytes. -/
import Derived.Test.YtnaidfcehmdmcaaAesDone
import Derived.Outline
namespace Go.Proofs.Ytnaidfcehmdmcaa.AS
open Go.RowKit Go.Proofs.YtnaidfcehmdmcaaW.PrintWords Go.Proofs.YtnaidfcehmdmcaaW.PrintLast Go.Proofs.YtnaidfcehmdmcaaW.PrintMore
open Go.Proofs.Ytnaidfcehmdmcaa.FC Go.Proofs.Ytnaidfcehmdmcaa.Mem

theorem txt_size (f : Nat → Int) : (txt f).size = 16 := by
  show ((strOfNums _).data).size = 16
  simp [strOfNums]
theorem txt_bt (f : Nat → Int) (i : Nat) (hi : i < 16) (hf : By (f i)) : bt (txt f) i = f i := by
  rw [← bt_nat (txt f) i (by rw [txt_size]; exact hi)]
  have h0 := hf.lo; have h1 := hf.hi
  show (((strOfNums ((List.range 16).map f)).data[i]'(by simp [strOfNums]; exact hi)).toNat : Int) = f i
  simp [strOfNums]
  omega
theorem txt_ext {f g : Nat → Int} (h : ∀ i, i < 16 → f i = g i) : txt f = txt g := by
  unfold txt
  congr 1
  exact List.map_congr_left fun i hi => h i (List.mem_range.1 hi)
theorem txt_self (s : ByteArray) (h : s.size = 16) : txt (fun i => bt s i) = s := by
  apply ByteArray.ext
  apply Array.ext
  · show (txt fun i => bt s i).size = s.size; rw [txt_size, h]
  · intro i h1 h2
    have hi : i < 16 := by have : (txt fun i => bt s i).size = 16 := txt_size _; exact this ▸ h1
    have e := txt_bt (fun i => bt s i) i hi (bt_by _ _)
    have e1 := bt_nat (txt fun i => bt s i) i h1
    have e2 := bt_nat s i h2
    rw [e, ← e2] at e1
    have : ((txt fun i => bt s i)[i]'h1).toNat = (s[i]'h2).toNat := by exact_mod_cast e1
    exact UInt8.toNat_inj.1 this
theorem txt_inj {f g : Nat → Int} (hf : ∀ i, i < 16 → By (f i)) (hg : ∀ i, i < 16 → By (g i)) (h : txt f = txt g) : ∀ i, i < 16 → f i = g i := fun i hi => by
  rw [← txt_bt f i hi (hf i hi), h, txt_bt g i hi (hg i hi)]

theorem info5' : (Try.prog.info? 5).map (fun i => (i.zero, i.size, i.bytes)) = some (some (.int .u8 0), 1, 1) := by kernel_rfl
theorem make16 (w : World) : (Instr.makeSlice 29 (.int .i64 16) (.int .i64 16)).run Try.prog w = .ok (.slice (some ⟨w.heap.size, 0, none⟩) 16 16) (w.alloc (.cells (u8a 16 fun _ => 0) 5)) := by
  obtain ⟨i, hi, hz, hs, hb⟩ := info_parts info5'
  have := run_make (P := Try.prog) w 29 5 i (.int .u8 0) Try.underlying29 hi hz .i64 .i64 16 16 (by decide) (by decide) (by rw [hb]; decide) (by decide)
  rw [hs] at this
  rw [show u8a 16 (fun _ => 0) = madeCells (Value.int .u8 0).cells 16 from by kernel_rfl]
  exact this
def zs : ByteArray := txt fun _ => 0
theorem zs_size : zs.size = 16 := txt_size _
theorem zs_bt (i : Nat) (hi : i < 16) : bt zs i = 0 := txt_bt _ i hi ⟨by decide, by decide⟩
theorem boxI0 : boxI 0 = 99 := by
  have h : boxI ((0 : Nat) : Int) = ((FM.box 0 : Nat) : Int) := boxI_nat 0
  have e : FM.box 0 = 99 := by decide +kernel
  rw [e] at h
  exact h
theorem boxed_zs : boxedS zs = txt fun _ => 99 := txt_ext fun i hi => by rw [zs_bt i hi, boxI0]
theorem mul02 : mulI 0 2 = 0 := by
  have h : mulI ((0 : Nat) : Int) ((2 : Nat) : Int) = ((FM.mul 0 2 : Nat) : Int) := mulI_nat 0 2
  have e : FM.mul 0 2 = 0 := by decide +kernel
  rw [e] at h
  exact h
theorem xor00 : bits .xor .u8 0 0 = 0 := by decide
theorem mixed_zs : mixedS zs = zs := txt_ext fun i hi => by
  unfold mixA mixI allI
  have e : ∀ j : Nat, j < 16 → bt zs j = 0 := zs_bt
  dsimp only
  rw [e _ (by omega), e _ (by omega), e _ (by omega), e _ (by omega), e _ (by omega), e _ (by omega)]
  simp only [xor00, mul02]

set_option maxRecDepth 100000 in
set_option maxHeartbeats 4000000 in
theorem alive06 (w : World) : Calls Try.prog 27 #[] w fun e w' => e = .returned (.bool true) ∧ Below w.heap.size w w' := by
  have hmk := make16 w
  have hcv := conv_txt (fun _ => 0) w.heap.size 5 (w.alloc (.cells (u8a 16 fun _ => 0) 5)) (Blk.new w 5 _)
  have B0 : Below w.heap.size w (w.alloc (.cells (u8a 16 fun _ => 0) 5)) := (Below.refl _ _).alloc (Nat.le_refl _) _
  have hz1 : (txt fun _ => 0) = zs := rfl
  rw [hz1] at hcv
  clear hz1
  have hs := zs_size
  obtain ⟨a, ha⟩ : ∃ a, boxedS zs = a := ⟨_, rfl⟩
  have b1 := Boxed_yes zs hs
  have b2 := Mixed_yes zs hs
  rw [mixed_zs] at b2
  rw [ha] at b1
  have ha16 : a.size = 16 := by rw [← ha, boxed_zs, txt_size]
  have h0 : 0 < a.size := by omega
  have h99 : ((a[0]'h0).toNat : Int) = 99 := by
    rw [bt_nat a 0 h0, ← ha, boxed_zs]
    exact txt_bt _ 0 (by decide) ⟨by decide, by decide⟩
  have h99' : (((a[0]'h0).toNat : Int) == 99) = true := by rw [h99]; rfl
  have h16' : ((a.size : Int) == 16) = true := by rw [ha16]; rfl
  have HB1 := Lib.hid b1
  have HB2 := Lib.hid b2
  have HB0 := Lib.hid B0
  clear b1 b2 ha hs ha16 h99 B0
  generalize zs = z at *
  go_enter Try.func27, Try.ntmps27
  go_wp2_with (first | (go_at_call 24; refine (HB1.out _).mono ?_; rintro e w1 ⟨rfl, hb1⟩) | (go_at_call 26; refine (HB2.out _).mono ?_; rintro e w2 ⟨rfl, hb2⟩))
  go_ret
  refine ⟨by first | rfl | (simp; done) | (simp [*]; done), ?_⟩
  have s1 := HB0.out.size
  have s2 := hb1.size
  exact (HB0.out.trans (hb1.mono s1)).trans (hb2.mono (by omega))
end Go.Proofs.Ytnaidfcehmdmcaa.AS
