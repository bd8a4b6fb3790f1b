/- Joined by a program of this session (wip/pack.py) for this claim: LabRow1, QSFx0, QSFx2, SkipPlace, SkipDrop, SkipPut, SkipPut2, SkipPut3, QSFx1, QSFx3, QSFx4, QSFx5, SkipPure, SkipPure2, SkipPure3, QSQx0, QSQx3, QSQx1, QSQx2, SkipOps, SkipCon, LabTop, LabTop2, LabStub2, QLRx0. -/
import Derived.Test.YtolbhliepkcihaaDoorKLabelRowsa
import Derived.Test.YtolbhliepkcihaaDoorProg
import Derived.Below
import Derived.Deep.Draws
import Derived.Deep.AppendLies
import Derived.Maps.AppendAt
import Derived.OwnWalk
import Derived.Laws.BytesArg
import Derived.Laws.MakeOwn
import Derived.Laws.OwnMore
import Derived.Deep.OwnRows
import Derived.Tactics
import Derived.Lib.ConvBytes
import Derived.Laws.Slices
import Derived.WalkKit
import Derived.KernelRfl
import Derived.RowKit3
import Derived.Deep.LoopGhost
import Derived.Deep.QuietTactic
import Derived.BigQuiet
import Derived.WideLaws
import Derived.Deep.DeepCutAuto
import Derived.Deep.CutBlock
import Derived.Deep.RegionHeld3
import Derived.Laws.Rows
import Derived.Lib.AppendStr
import Derived.ArgAppend
import Derived.Laws.IdiomCopy
import Derived.OrdersHeld
import Derived.Laws.BitsLemmas
import Derived.RowKit
import Derived.Test.YtolbhliepkcihaaDoorBaseH
import Derived.Test.YtolbhliepkcihaaDoorPWa
import Derived.Deep.RegionLawGrows
import Derived.Deep.Upon
import Derived.DataElems
section
namespace Go.Proofs.YtolbhliepkcihaaDoor.Lab
open Go.RowKit Go.Proofs.YtolbhliepkcihaaDoorW.PrintWords Go.Proofs.YtolbhliepkcihaaDoorW.PrintLast Go.Proofs.YtolbhliepkcihaaDoor.Kinds Go.Proofs.YtolbhliepkcihaaDoor.Build Go.Proofs.YtolbhliepkcihaaDoor.Sha Go.Proofs.YtolbhliepkcihaaDoor.Mac Go.Proofs.YtolbhliepkcihaaDoor.Codec Go.Proofs.YtolbhliepkcihaaDoor.Tower Go.Proofs.YtolbhliepkcihaaDoor.Mem
set_option maxRecDepth 100000 in
set_option maxHeartbeats 8000000 in
theorem row_walk (key : ByteArray) (A0 : Option Addr) (c0 : Nat) (l : List It) (lv : Nat) (w : World) (hr0 : Kd.C k46 w A0 l.length l) (hl : l.length ≤ 1000) (hkey : key.size ≤ 1000000000) (hok : ∀ x, x ∈ l → x.f1.size ≤ 4096 ∧ 0 ≤ x.f0 ∧ x.f0 < 18446744073709551616) (hlv : lv ≤ 8) (hT : TabW w) :
  Calls Tryd.prog 68 #[.string key, .slice A0 l.length c0, .int .i64 (lv : Int)] w fun e w' => ∃ v, e = .returned v ∧ w'.ownsRow w.heap.size 9 1 v (rowL key l lv).length (strV (rowL key l lv)) ∧ Below w.heap.size w w' := by
 obtain ⟨i9, hi9, hz9, hs9, hb9⟩ := info_parts str_info
 obtain ⟨i3, hi3, hz3, hs3, hb3⟩ := info_parts int_info
 have HC := Aside0.mk hr0
 have HO := Lib.hid hok
 have HT := Lib.hid hT
 have e1 : sha_Sum.f ⟨#[1]⟩ = some (sumS (ofNats [1])) := if_pos (by decide)
 have HS := Lib.hid (sha_Sum.calls ⟨#[1]⟩ (sumS (ofNats [1])) · e1)
 clear hr0 hok hT e1
 obtain ⟨s0, hs0⟩ : ∃ s0, sumS (ofNats [1]) = s0 := ⟨_, rfl⟩
 rw [hs0] at HS
 have HS0 : Hid (strV ((labs0 key l).take 1) = [.string s0]) := Lib.hid (by rw [← hs0]; rfl)
 have HH0 : Hid (intV ((hts0 key l).take 1) = [.int .i64 9]) := Lib.hid rfl
 clear hs0
 go_enter Tryd.func68, Tryd.ntmps68
 go_wp2_with fail
 refine (HS.out _).mono ?_
 rintro e w1 ⟨rfl, hb1⟩
 have hg8 : w.heap.size ≤ w1.heap.size := hb1.size
 have N1 := Blk.new w1 9 #[.string s0]
 have N2 := Blk.new (w1.alloc (.cells #[.string s0] 9)) 3 #[.int .i64 9]
 have N3 := Blk.new ((w1.alloc (.cells #[.string s0] 9)).alloc (.cells #[.int .i64 9] 3)) 27 #[.slice (some ⟨w1.heap.size + 1, 0, none⟩) 1 1]
 have N2' := N2.alloc (.cells #[.slice (some ⟨w1.heap.size + 1, 0, none⟩) 1 1] 27)
 have N1' := (N1.alloc (.cells #[.int .i64 9] 3)).alloc (.cells #[.slice (some ⟨w1.heap.size + 1, 0, none⟩) 1 1] 27)
 rw [World.size_alloc, World.size_alloc] at N3
 rw [World.size_alloc] at N2'
 have R1 := Aside0.mk (own_of_blk (base := w.heap.size) N1' hg8)
 have R2 := Aside0.mk (own_of_blk (base := w.heap.size) N2' (by omega))
 have R3 := Aside0.mk N3
 have HB1 := Aside0.mk (((hb1.alloc hb1.size (.cells #[.string s0] 9)).alloc (by rw [World.size_alloc]; omega) (.cells #[.int .i64 9] 3)).alloc (by rw [World.size_alloc, World.size_alloc]; omega) (.cells #[.slice (some ⟨w1.heap.size + 1, 0, none⟩) 1 1] 27))
 clear hb1 N1 N2 N3 N1' N2'
 go_wp2
 obtain ⟨G8, hG8⟩ : ∃ G, w1.heap.size + 1 + 1 = G := ⟨_, rfl⟩
 rw [hG8] at R3 ⊢
 have hGB : w.heap.size ≤ G8 := by omega
 clear hG8 hg8
 go_loopw [7, 21] (fun lv7 iv wr => ∃ (k : Nat) (vh : Value), k ≤ l.length ∧ iv = .int .i64 k ∧ Aside0 (wr.ownsRow w.heap.size 9 1 lv7 (k + 1) (strV ((labs0 key l).take (k + 1)))) ∧ Aside0 (wr.ownsRow w.heap.size 3 1 vh (k + 1) (intV ((hts0 key l).take (k + 1)))) ∧ Aside0 (Blk wr G8 27 #[vh]) ∧ Aside0 (Below w.heap.size w wr)) (fun _ iv _ => l.length - (intOf iv).toNat)
 case atStart => exact ⟨0, _, Nat.zero_le _, rfl, by rw [HS0.out]; exact R1, by rw [HH0.out]; exact R2, R3, HB1⟩
 case round =>
  obtain ⟨k, vh, hk, rfl, HRl, HRh, HX8, HB⟩ := hrel
  clear R1 R2 R3 HB1
  by_cases hlt : k < l.length
  ·obtain ⟨ad, e1, hc0, hc1⟩ := at_T46 HC.out (k : Int) (by omega) (by omega)
   cases e1
   rw [rd_it l k hlt, Int.toNat_natCast] at hc0 hc1
   replace hc0 := (HB.out.cell (World.block_lt_of_cell? w _ hc0)).trans hc0
   replace hc1 := (HB.out.cell (World.block_lt_of_cell? w _ hc1)).trans hc1
   obtain ⟨q1, q2, q3⟩ := HO.out _ (List.getElem_mem hlt)
   have GL := Lib.hid (QLA.label_leaf.calls l[k].f0 l[k].f1 (sumS (itemT l[k])) · (pleaf_f l[k] q2 q3 q1))
   have GH := Lib.hid (fun W h => tower_Height.calls key l[k].f0 ((heightN key l[k].f0.toNat : Nat) : Int) W (if_pos ⟨hkey, q2, q3⟩) h)
   have EL := Lib.hid (labs_take key l k hlt)
   have EH := Lib.hid (hts_take key l k hlt)
   have HX := Aside0.mk (Blk.new wr 46 #[.int .u64 l[k].f0, .string l[k].f1])
   replace HRl := Aside0.mk (HRl.out.alloc (.cells #[.int .u64 l[k].f0, .string l[k].f1] 46))
   replace HRh := Aside0.mk (HRh.out.alloc (.cells #[.int .u64 l[k].f0, .string l[k].f1] 46))
   replace HX8 := Aside0.mk (HX8.out.alloc (.cells #[.int .u64 l[k].f0, .string l[k].f1] 46))
   replace HB := Aside0.mk (HB.out.alloc HB.out.size (.cells #[.int .u64 l[k].f0, .string l[k].f1] 46))
   clear q1 q2 q3
   generalize sumS (itemT l[k]) = y at *
   generalize ((heightN key l[k].f0.toNat : Nat) : Int) = z at *
   go_upto_region 6 with (fail)
   obtain ⟨gx, hgx⟩ : ∃ gx, wr.heap.size = gx := ⟨_, rfl⟩
   rw [hgx] at HX ⊢
   obtain ⟨w5, hw5⟩ : ∃ w5, (wr.alloc (.cells #[.int .u64 l[k].f0, .string l[k].f1] 46)) = w5 := ⟨_, rfl⟩
   rw [hw5] at HX HRl HRh HX8 HB ⊢
   generalize l[k].f0 = f0 at *
   generalize l[k].f1 = f1 at *
   clear hc0 hc1 hw5 hgx
   replace HRl := Aside0.mk (own_drew HRl.out)
   replace HRh := Aside0.mk (own_drew HRh.out)
   replace HX8 := Aside0.mk (HX8.out.drew)
   replace HX := Aside0.mk (HX.out.drew)
   replace HB := Aside0.mk (HB.out.drew)
   have hx0 : w5.drew.cell? ⟨gx, 0, none⟩ = some (.int .u64 f0) := HX.out.cell 0
   have hx1 : w5.drew.cell? ⟨gx, 1, none⟩ = some (.string f1) := HX.out.cell 1
   have hx8 : w5.drew.cell? ⟨G8, 0, none⟩ = some vh := HX8.out.cell 0
   have fx8 := HX8.out.frozen 0
   have hkn : k + 1 ≤ 1000 := by omega
   refine start_ (n := 14) (S := (fun w' : World => w'.cell? ⟨gx, 0, none⟩ = some (.int .u64 f0) ∧ w'.cell? ⟨gx, 1, none⟩ = some (.string f1) ∧ w'.cell? ⟨G8, 0, none⟩ = some vh)) (ds := [13]) #[false, false, false, false, false, false, false, false, false, false, false, false, false, false] (by kernel_rfl) rfl rfl ⟨hx0, hx1, hx8⟩ (fun hHeld => ?_)
   refine pure_ (i := 0) (N := some 25) (v := u7) (a' := ?_) #[true, false, false, false, false, false, false, false, false, false, false, false, false, false] rfl rfl (by kernel_rfl) (fun _ _ _ h => h) (Or.inl ⟨by rfl, ?_⟩) ?_ ?_
   ·intro w'
    go_simp
   rotate_left
   ·simp only [Act.put, List.setIfInBounds_toArray, List.set_cons_zero, List.set_cons_succ]
    rfl
   refine pure_ (i := 6) (N := some 31) (v := .string key) (a' := ?_) #[true, false, false, false, false, false, true, false, false, false, false, false, false, false] rfl rfl (by kernel_rfl) (fun _ _ _ h => h) (Or.inl ⟨by rfl, ?_⟩) ?_ ?_
   ·intro w'
    go_simp
   rotate_left
   ·simp only [Act.put, List.setIfInBounds_toArray, List.set_cons_zero, List.set_cons_succ]
    rfl
   refine pure_ (i := 7) (N := some 32) (v := .pointer (some ⟨gx, 0, none⟩)) (a' := ?_) #[true, false, false, false, false, false, true, true, false, false, false, false, false, false] rfl rfl (by kernel_rfl) (fun _ _ _ h => h) (Or.inl ⟨by rfl, ?_⟩) ?_ ?_
   ·intro w'
    go_simp
   rotate_left
   ·simp only [Act.put, List.setIfInBounds_toArray, List.set_cons_zero, List.set_cons_succ]
    rfl
   refine take_ (i := 1) (N := some 26) (v := .agg #[.int .u64 f0, .string f1]) (a' := ?_) #[true, true, false, false, false, false, true, true, false, false, false, false, false, false] rfl rfl (by kernel_rfl) (fun _ _ _ h => h) (Or.inl ⟨by rfl, ?_⟩) hHeld ?_ ?_
   ·intro w' hSw
    obtain ⟨q0, q1, q8⟩ := hSw
    go_simp
   rotate_left
   ·simp only [Act.put, List.setIfInBounds_toArray, List.set_cons_zero, List.set_cons_succ]
    rfl
   refine take_ (i := 5) (N := some 30) (v := vh) (a' := ?_) #[true, true, false, false, false, true, true, true, false, false, false, false, false, false] rfl rfl (by kernel_rfl) (fun _ _ _ h => h) (Or.inl ⟨by rfl, ?_⟩) hHeld ?_ ?_
   ·intro w' hSw
    obtain ⟨q0, q1, q8⟩ := hSw
    go_simp
   rotate_left
   ·simp only [Act.put, List.setIfInBounds_toArray, List.set_cons_zero, List.set_cons_succ]
    rfl
   refine take_ (i := 8) (N := some 33) (v := .int .u64 f0) (a' := ?_) #[true, true, false, false, false, true, true, true, true, false, false, false, false, false] rfl rfl (by kernel_rfl) (fun _ _ _ h => h) (Or.inl ⟨by rfl, ?_⟩) hHeld ?_ ?_
   ·intro w' hSw
    obtain ⟨q0, q1, q8⟩ := hSw
    go_simp
   rotate_left
   ·simp only [Act.put, List.setIfInBounds_toArray, List.set_cons_zero, List.set_cons_succ]
    rfl
   refine one_ (i := 2) (N := some 27) #[true, true, true, false, false, true, true, true, true, false, false, false, false, false] rfl rfl (by kernel_rfl) (by decide) (fun K hK => ?_)
   clear hHeld
   go_simp
   (go_at_call 72; refine (GL.out _).mono ?_; rintro e w5 ⟨rfl, hb5⟩; replace HRl := Aside0.mk (own_bel HRl.out hb5); replace HRh := Aside0.mk (own_bel HRh.out hb5); replace HX8 := Aside0.mk (blk_bel HX8.out hb5); replace HX := Aside0.mk (blk_bel HX.out hb5); replace HB := Aside0.mk (HB.out.trans (hb5.mono HB.out.size)); clear hb5; (try clear hx0 hx1 hx8 fx8); have hx0 : w5.cell? ⟨gx, 0, none⟩ = some (.int .u64 f0) := HX.out.cell 0; have hx1 : w5.cell? ⟨gx, 1, none⟩ = some (.string f1) := HX.out.cell 1; have hx8 : w5.cell? ⟨G8, 0, none⟩ = some vh := HX8.out.cell 0; have fx8 := HX8.out.frozen 0)
   refine hK.out _ _ ?_ (fun hHeld => ?_)
   ·first | exact ⟨hx0, hx1, hx8⟩ | exact ⟨Lib.cell?_alloc_some _ hx0, Lib.cell?_alloc_some _ hx1, Lib.cell?_alloc_some _ hx8⟩
   clear hK K
   try simp only [Act.put, List.setIfInBounds_toArray, List.set_cons_zero, List.set_cons_succ]
   refine one_ (i := 3) (N := some 28) #[true, true, true, true, false, true, true, true, true, false, false, false, false, false] rfl rfl (by kernel_rfl) (by decide) (fun K hK => ?_)
   clear hHeld
   go_simp
   refine hK.out _ _ ?_ (fun hHeld => ?_)
   ·first | exact ⟨hx0, hx1, hx8⟩ | exact ⟨Lib.cell?_alloc_some _ hx0, Lib.cell?_alloc_some _ hx1, Lib.cell?_alloc_some _ hx8⟩
   clear hK K
   try simp only [Act.put, List.setIfInBounds_toArray, List.set_cons_zero, List.set_cons_succ]
   refine one_ (i := 4) (N := some 29) #[true, true, true, true, true, true, true, true, true, false, false, false, false, false] rfl rfl (by kernel_rfl) (by decide) (fun K hK => ?_)
   clear hHeld
   (refine step_own rfl (.tmp 25) (.tmp 28) 49 rfl w.heap.size 9 i9 (.string ⟨#[]⟩) 1 16 Tryd.underlying49 hi9 hz9 hs9 hb9 rfl (by decide) u7 (k + 1) _ (by rfl) (HRl.out.alloc (.cells #[.string y] 9)) ⟨w5.heap.size, 0, none⟩ 1 1 [.string y] (by rfl) rfl (cell_one_new _ _ _) (by simp [Value.oneCell']) (by simp only [maxLen]; omega) (by omega) (HB.out.alloc HB.out.size (.cells #[.string y] 9)).size ?_; intro v6 w5 ho6 hg6; obtain ⟨gl, cpl, rfl, _⟩ := own_succ3 ho6; replace HRh := Aside0.mk ((HRh.out.alloc (.cells #[.string y] 9)).kept hg6 (own_ne2 (HRh.out.alloc (.cells #[.string y] 9)) (HRl.out.alloc (.cells #[.string y] 9)) (by decide))); replace HX8 := Aside0.mk (blk_grown (HX8.out.alloc (.cells #[.string y] 9)) hg6 (own_ne (HRl.out.alloc (.cells #[.string y] 9)) (HX8.out.alloc (.cells #[.string y] 9)) (by decide))); replace HX := Aside0.mk (blk_grown (HX.out.alloc (.cells #[.string y] 9)) hg6 (own_ne (HRl.out.alloc (.cells #[.string y] 9)) (HX.out.alloc (.cells #[.string y] 9)) (by decide))); replace HB := Aside0.mk (bel_grown (HB.out.alloc HB.out.size (.cells #[.string y] 9)) hg6 (HB.out.alloc HB.out.size (.cells #[.string y] 9)).size (fun q e => own_base (HRl.out.alloc (.cells #[.string y] 9)) q e)); replace HRl := Aside0.mk ho6; clear ho6 hg6; (try clear hx0 hx1 hx8 fx8); have hx0 : w5.cell? ⟨gx, 0, none⟩ = some (.int .u64 f0) := HX.out.cell 0; have hx1 : w5.cell? ⟨gx, 1, none⟩ = some (.string f1) := HX.out.cell 1; have hx8 : w5.cell? ⟨G8, 0, none⟩ = some vh := HX8.out.cell 0; have fx8 := HX8.out.frozen 0)
   refine hK.out _ _ ?_ (fun hHeld => ?_)
   ·first | exact ⟨hx0, hx1, hx8⟩ | exact ⟨Lib.cell?_alloc_some _ hx0, Lib.cell?_alloc_some _ hx1, Lib.cell?_alloc_some _ hx8⟩
   clear hK K
   try simp only [Act.put, List.setIfInBounds_toArray]
   refine one_ (i := 9) (N := some 34) #[true, true, true, true, true, true, true, true, true, true, false, false, false, false] rfl rfl (by kernel_rfl) (by decide) (fun K hK => ?_)
   clear hHeld
   go_simp
   (go_at_call 17; refine (GH.out _ (tab_below HT.out HB.out (Nat.le_refl _))).mono ?_; rintro e w5 ⟨rfl, hb5⟩; replace HRl := Aside0.mk (own_bel HRl.out hb5); replace HRh := Aside0.mk (own_bel HRh.out hb5); replace HX8 := Aside0.mk (blk_bel HX8.out hb5); replace HX := Aside0.mk (blk_bel HX.out hb5); replace HB := Aside0.mk (HB.out.trans (hb5.mono HB.out.size)); clear hb5; (try clear hx0 hx1 hx8 fx8); have hx0 : w5.cell? ⟨gx, 0, none⟩ = some (.int .u64 f0) := HX.out.cell 0; have hx1 : w5.cell? ⟨gx, 1, none⟩ = some (.string f1) := HX.out.cell 1; have hx8 : w5.cell? ⟨G8, 0, none⟩ = some vh := HX8.out.cell 0; have fx8 := HX8.out.frozen 0)
   refine hK.out _ _ ?_ (fun hHeld => ?_)
   ·first | exact ⟨hx0, hx1, hx8⟩ | exact ⟨Lib.cell?_alloc_some _ hx0, Lib.cell?_alloc_some _ hx1, Lib.cell?_alloc_some _ hx8⟩
   clear hK K
   try simp only [Act.put, List.setIfInBounds_toArray, List.set_cons_zero, List.set_cons_succ]
   refine one_ (i := 10) (N := some 35) #[true, true, true, true, true, true, true, true, true, true, true, false, false, false] rfl rfl (by kernel_rfl) (by decide) (fun K hK => ?_)
   clear hHeld
   go_simp
   refine hK.out _ _ ?_ (fun hHeld => ?_)
   ·first | exact ⟨hx0, hx1, hx8⟩ | exact ⟨Lib.cell?_alloc_some _ hx0, Lib.cell?_alloc_some _ hx1, Lib.cell?_alloc_some _ hx8⟩
   clear hK K
   try simp only [Act.put, List.setIfInBounds_toArray, List.set_cons_zero, List.set_cons_succ]
   refine one_ (i := 11) (N := some 36) #[true, true, true, true, true, true, true, true, true, true, true, true, false, false] rfl rfl (by kernel_rfl) (by decide) (fun K hK => ?_)
   clear hHeld
   (refine step_own rfl (.tmp 30) (.tmp 35) 27 rfl w.heap.size 3 i3 (.int .i64 0) 1 8 Tryd.underlying27 hi3 hz3 hs3 hb3 rfl (by decide) vh (k + 1) _ (by rfl) (HRh.out.alloc (.cells #[.int .i64 z] 3)) ⟨w5.heap.size, 0, none⟩ 1 1 [.int .i64 z] (by rfl) rfl (cell_one_new _ _ _) (by simp [Value.oneCell']) (by simp only [maxLen]; omega) (by omega) (HB.out.alloc HB.out.size (.cells #[.int .i64 z] 3)).size ?_; intro v6 w5 ho6 hg6; obtain ⟨gh, cph, rfl, _⟩ := own_succ3 ho6; replace HRl := Aside0.mk ((HRl.out.alloc (.cells #[.int .i64 z] 3)).kept hg6 (own_ne2 (HRl.out.alloc (.cells #[.int .i64 z] 3)) (HRh.out.alloc (.cells #[.int .i64 z] 3)) (by decide))); replace HX8 := Aside0.mk (blk_grown (HX8.out.alloc (.cells #[.int .i64 z] 3)) hg6 (own_ne (HRh.out.alloc (.cells #[.int .i64 z] 3)) (HX8.out.alloc (.cells #[.int .i64 z] 3)) (by decide))); replace HX := Aside0.mk (blk_grown (HX.out.alloc (.cells #[.int .i64 z] 3)) hg6 (own_ne (HRh.out.alloc (.cells #[.int .i64 z] 3)) (HX.out.alloc (.cells #[.int .i64 z] 3)) (by decide))); replace HB := Aside0.mk (bel_grown (HB.out.alloc HB.out.size (.cells #[.int .i64 z] 3)) hg6 (HB.out.alloc HB.out.size (.cells #[.int .i64 z] 3)).size (fun q e => own_base (HRh.out.alloc (.cells #[.int .i64 z] 3)) q e)); replace HRh := Aside0.mk ho6; clear ho6 hg6; (try clear hx0 hx1 hx8 fx8); have hx0 : w5.cell? ⟨gx, 0, none⟩ = some (.int .u64 f0) := HX.out.cell 0; have hx1 : w5.cell? ⟨gx, 1, none⟩ = some (.string f1) := HX.out.cell 1; have hx8 : w5.cell? ⟨G8, 0, none⟩ = some vh := HX8.out.cell 0; have fx8 := HX8.out.frozen 0)
   refine hK.out _ _ ?_ (fun hHeld => ?_)
   ·first | exact ⟨hx0, hx1, hx8⟩ | exact ⟨Lib.cell?_alloc_some _ hx0, Lib.cell?_alloc_some _ hx1, Lib.cell?_alloc_some _ hx8⟩
   clear hK K
   try simp only [Act.put, List.setIfInBounds_toArray]
   refine pure_ (i := 12) (N := some 7) (v := .slice (some ⟨gl, 0, none⟩) (k + 1 + 1) cpl) (a' := ?_) #[true, true, true, true, true, true, true, true, true, true, true, true, true, false] rfl rfl (by kernel_rfl) (fun _ _ _ h => h) (Or.inl ⟨by rfl, ?_⟩) ?_ ?_
   ·intro w'
    go_simp
   rotate_left
   ·simp only [Act.put]
    rfl
   refine last_ (i := 13) (N := none) #[true, true, true, true, true, true, true, true, true, true, true, true, true, true] rfl rfl (by kernel_rfl) (by decide) (fun K hK => ?_)
   go_simp
   refine hK.out _ _ ?_
   refine done_ (by kernel_rfl) ?_
   clear hK K hHeld
   have QL := Aside0.mk (own_set HRl.out (own_ne HRl.out HX8.out (by decide)) (.slice (some ⟨gh, 0, none⟩) (k + 1 + 1) cph))
   have QH := Aside0.mk (own_set HRh.out (own_ne HRh.out HX8.out (by decide)) (.slice (some ⟨gh, 0, none⟩) (k + 1 + 1) cph))
   have Q8 : Aside0 (Blk (w5.setCell ⟨G8, 0, none⟩ (.slice (some ⟨gh, 0, none⟩) (k + 1 + 1) cph)) G8 27 #[.slice (some ⟨gh, 0, none⟩) (k + 1 + 1) cph]) := Aside0.mk (HX8.out.set_ 0 _)
   have QB := Aside0.mk (HB.out.setCell (p := ⟨G8, 0, none⟩) hGB (.slice (some ⟨gh, 0, none⟩) (k + 1 + 1) cph))
   clear HRl HRh HX8 HB HX hx0 hx1 hx8 fx8 GL GH
   generalize w5.setCell ⟨G8, 0, none⟩ (.slice (some ⟨gh, 0, none⟩) (k + 1 + 1) cph) = w6 at *
   go_wp2
   go_roundw
   case rel => exact ⟨k + 1, _, by omega, by go_num, ⟨by rw [EL.out]; exact QL.out⟩, ⟨by rw [EH.out]; exact QH.out⟩, Q8, QB⟩
   case measure => simp [intOf]; omega
  ·obtain rfl : k = l.length := by omega
   have e0 : strV ((labs0 key l).take (l.length + 1)) = strV (rowF (lab 0) 0 (ents key l)) := by rw [List.take_of_length_le (Nat.le_of_eq (labs_len key l)), labs_row]
   have e1 : intV ((hts0 key l).take (l.length + 1)) = intV (htI 0 (ents key l)) := by rw [List.take_of_length_le (Nat.le_of_eq (hts_len0 key l)), hts_row0]; rfl
   have e2 : (rowF (lab 0) 0 (ents key l)).length = l.length + 1 := by rw [← labs_row, labs_len]
   have HRl2 : Aside0 (wr.ownsRow w.heap.size 9 1 u7 (rowF (lab 0) 0 (ents key l)).length (strV (rowF (lab 0) 0 (ents key l)))) := ⟨by rw [e2, ← e0]; exact HRl.out⟩
   have HRh2 : Aside0 (wr.ownsRow w.heap.size 3 1 vh (rowF (lab 0) 0 (ents key l)).length (intV (htI 0 (ents key l)))) := ⟨by rw [e2, ← e1]; exact HRh.out⟩
   have HHD := Lib.hid (row_head key l)
   have HUP := Lib.hid (row_up key l)
   have HSZ : Hid (∀ m, (rowF (lab m) m (ents key l)).length ≤ 1001) := Lib.hid (fun m => by have := row_len m (ents key l); unfold ents at this; simp at this; unfold ents; omega)
   have HEND : Hid (rowL key l lv = rowF (lab lv) lv (ents key l)) := Lib.hid rfl
   have HF := own_fresh HRh.out
   have hGI := HB.out.size
   clear e0 e1 e2 HRl HRh HC HO HT HS HS0 HH0
   generalize ents key l = es at *
   replace HRl2 := Aside0.mk (HRl2.out.alloc (.cells #[.int .i64 1] 3))
   replace HRh2 := Aside0.mk (HRh2.out.alloc (.cells #[.int .i64 1] 3))
   replace HX8 := Aside0.mk (HX8.out.alloc (.cells #[.int .i64 1] 3))
   have HXi := Aside0.mk (Blk.new wr 3 #[.int .i64 1])
   replace HB := Aside0.mk (HB.out.alloc HB.out.size (.cells #[.int .i64 1] 3))
   go_wp2
   go_loopw [7, 11] (fun lv7 pv wr => ∃ (m gi : Nat) (vh : Value), m ≤ lv ∧ pv = .pointer (some ⟨gi, 0, none⟩) ∧ w.heap.size ≤ gi ∧ vh.ownBlock ≠ some gi ∧ Aside0 (wr.ownsRow w.heap.size 9 1 lv7 (rowF (lab m) m es).length (strV (rowF (lab m) m es))) ∧ Aside0 (wr.ownsRow w.heap.size 3 1 vh (rowF (lab m) m es).length (intV (htI m es))) ∧ Aside0 (Blk wr G8 27 #[vh]) ∧ Aside0 (Blk wr gi 3 #[.int .i64 ((m + 1 : Nat) : Int)]) ∧ Aside0 (Below w.heap.size w wr)) (fun _ pv wr => lv + 1 - boxN wr pv)
   case atStart => exact ⟨0, _, _, Nat.zero_le _, rfl, hGI, HF, HRl2, HRh2, HX8, HXi, HB⟩
   case round =>
    obtain ⟨m, gi, vh, hm, rfl, hgi, hfr, HRl, HRh, HX8, HXi, HB⟩ := hrel
    clear HRl2 HRh2 HF hGI
    have hbox := boxN_of HXi.out
    obtain ⟨n, hn⟩ : ∃ n, (rowF (lab m) m es).length = n + 1 := ⟨(rowF (lab m) m es).length - 1, by have := HHD.out m (by omega); omega⟩
    have hn1 : n + 1 ≤ 1001 := by have := HSZ.out m; omega
    rw [hn] at HRl HRh
    obtain ⟨gl, cl, rfl, hcl⟩ := own_succ3 HRl.out
    obtain ⟨gh, ch, rfl, hch⟩ := own_succ3 HRh.out
    have hcx8 := HX8.out.cell 0
    have hcxi := HXi.out.cell 0
    by_cases hmv : m < lv
    ·have hle : decide (((m + 1 : Nat) : Int) ≤ (lv : Int)) = true := decide_eq_true (by omega)
     have HG := Lib.hid (groups_at m es gl cl gh ch G8 gi w.heap.size (n + 1) wr hn.symm hcl HRh.out HX8.out HXi.out (by omega) hn1)
     have hup := HUP.out m (by omega)
     have hslen : (segs (m + 1) (hts m es)).length = (rowF (lab (m + 1)) (m + 1) es).length := by rw [hup, List.length_map]
     obtain ⟨q, hq⟩ : ∃ q, (rowF (lab (m + 1)) (m + 1) es).length = q + 1 := ⟨(rowF (lab (m + 1)) (m + 1) es).length - 1, by have := HHD.out (m + 1) (by omega); omega⟩
     have hq1 : q + 1 ≤ 1001 := by have := HSZ.out (m + 1); omega
     go_wp2_with (go_at_call 101; refine (HG.out).mono ?_; rintro e w1 ⟨v, rfl, hown, hb1⟩; rw [hslen, hq] at hown; obtain ⟨gg, cg, rfl, hcg⟩ := own_succ3 hown; have HGR := Aside0.mk hown; have HB1 := Aside0.mk hb1; clear hb1 hown)
     clear HG hcx8 hcxi
     replace HRl := Aside0.mk (own_bel HRl.out HB1.out)
     replace HRh := Aside0.mk (own_bel HRh.out HB1.out)
     replace HX8 := Aside0.mk (blk_bel HX8.out HB1.out)
     replace HXi := Aside0.mk (blk_bel HXi.out HB1.out)
     replace HB := Aside0.mk (below_step HB.out HB1.out)
     have HSL := Lib.hid hslen
     have HUPE := Lib.hid hup
     clear HB1 hslen hup
     go_loopw [13, 48] (fun ov iv wq => ∃ i : Nat, i ≤ q + 1 ∧ iv = .int .i64 i ∧ Aside0 (wq.ownsRow w1.heap.size 9 1 ov i (strV ((rowF (lab (m + 1)) (m + 1) es).take i))) ∧ Aside0 (Below w1.heap.size w1 wq)) (fun _ iv _ => q + 1 - (intOf iv).toNat)
     case atStart => exact ⟨0, Nat.zero_le _, rfl, ⟨World.ownsRow_nil _ _ _ _⟩, ⟨Below.refl _ _⟩⟩
     case round =>
      obtain ⟨i, hi, rfl, HR, HBB⟩ := hrel
      by_cases hiq : i < q + 1
      ·have hcxi := ((HXi.out.below HBB.out HXi.out.lt).cell 0)
       have hsl := HSL.out
       have his : i < (segs (m + 1) (hts m es)).length := by omega
       have HJ := Lib.hid (fun W (hb : Below w1.heap.size w1 W) => join_at m (by omega) es gl cl w.heap.size (n + 1) W hn.symm hcl hn1 (own_bel HRl.out hb) i his)
       have ET := Lib.hid (row_take es (m + 1) i (by omega))
       have hti : (rowF (lab (m + 1)) (m + 1) es)[i]'(by omega) = sumS (joinT (m + 1) (cutL (rowF (lab m) m es) (segs (m + 1) (hts m es))[i])) := by
        simp only [HUPE.out, List.getElem_map]
       have hcg0 : w1.cell? ⟨gg, i, none⟩ = some (segV gl cl (segs (m + 1) (hts m es))[i]) := by
        rw [HGR.out.cellAt i (by omega), List.getElem?_map, List.getElem?_eq_getElem his]
        rfl
       have hcgi := (HBB.out.cell (World.block_lt_of_cell? _ _ hcg0)).trans hcg0
       rw [hti] at ET
       obtain ⟨sg, hsg⟩ : ∃ sg, (segs (m + 1) (hts m es))[i] = sg := ⟨_, rfl⟩
       rw [hsg] at HJ ET hcgi
       clear hcg0 hti hsg his hsl
       generalize sumS (joinT (m + 1) (cutL (rowF (lab m) m es) sg)) = y at *
       have p0 : (0 : Int) ≤ (i : Int) := by omega
       have p1 : (i : Int) < ((q + 1 : Nat) : Int) := by omega
       have hm1 : i + 1 ≤ maxLen := by simp only [maxLen]; omega
       have hm2 : (i + 1) * 16 ≤ 140737488355328 := by omega
       have hsv : segV gl cl sg = .slice (some ⟨gl, sg.1, none⟩) (sg.2 - sg.1) (cl - sg.1) := rfl
       rw [hsv] at hcgi HJ
       clear hsv
       go_wp2_with (first | (go_at_call 75; refine (HJ.out _ HBB.out).mono ?_; rintro e w2 ⟨rfl, hb2⟩; replace HR := Aside0.mk (own_bel HR.out hb2); replace HBB := Aside0.mk (below_step HBB.out hb2); clear hb2) | (at_builtin; refine wpList_append_own _ rfl _ _ 49 rfl w1.heap.size 9 i9 (.string ⟨#[]⟩) 1 16 Tryd.underlying49 hi9 hz9 hs9 hb9 rfl (by decide) _ _ _ rfl (HR.out.alloc _) ⟨w2.heap.size, 0, none⟩ 1 1 [.string y] rfl rfl (cell_one_new _ _ _) (by simp [Value.oneCell']) hm1 hm2 (by have := HBB.out.size; simp; omega) ?_; intro v' w3 hown' hgrow _))
       go_roundw
       case rel =>
        refine ⟨i + 1, by omega, by go_num, ⟨?_⟩, ⟨?_⟩⟩
        ·rw [ET.out]; exact hown'
        ·exact ((HBB.out.alloc HBB.out.size _).grown hgrow (by have := HBB.out.size; simp; omega) (fun q e => own_base HR.out q e))
       case measure => simp [intOf]; omega
      ·obtain rfl : i = q + 1 := by omega
       have eT : (rowF (lab (m + 1)) (m + 1) es).take (q + 1) = rowF (lab (m + 1)) (m + 1) es := List.take_of_length_le (by omega)
       rw [eT] at HR
       clear eT HGR HSL HUPE hiq hi
       replace HRh := Aside0.mk (own_bel HRh.out HBB.out)
       replace HX8 := Aside0.mk (blk_bel HX8.out HBB.out)
       replace HXi := Aside0.mk (blk_bel HXi.out HBB.out)
       have hB1 := HB.out.size
       replace HR := Aside0.mk (own_le HR.out hB1)
       replace HB := Aside0.mk (below_step HB.out HBB.out)
       clear HBB HRl
       have hcx8 := HX8.out.cell 0
       have hcxi := HXi.out.cell 0
       have hgne : gi ≠ gh := fun e => hfr (by rw [e]; rfl)
       have HD := Lib.hid (del_at m es gh ch gi w.heap.size (n + 1) wr hn.symm hn1 hgne HRh.out HXi.out)
       rw [hq] at HD
       have hgG : gi ≠ G8 := blk_ne HXi.out HX8.out (by decide)
       go_upto_region 19 with (go_at_call 90; refine (HD.out).mono ?_; rintro e w4 ⟨rfl, hoh, hgr⟩; replace HR := Aside0.mk (HR.out.kept hgr (own_ne2 HR.out HRh.out (by decide))); replace HB := Aside0.mk (bel_grown HB.out hgr HB.out.size (fun q e => own_base HRh.out q e)); replace HXi := Aside0.mk (blk_grown HXi.out hgr (fun e => hgne (Option.some.inj e).symm)); replace HX8 := Aside0.mk (blk_grown HX8.out hgr (own_ne HRh.out HX8.out (by decide))); replace HRh := Aside0.mk hoh; clear hoh hgr hcx8 hcxi; have hcx8 := HX8.out.cell 0; have hfx8 := HX8.out.frozen 0)
       obtain ⟨vv, hvv⟩ : ∃ vv, Value.slice (some ⟨gh, 0, none⟩) (rowF (lab (m + 1)) (m + 1) es).length ch = vv := ⟨_, rfl⟩
       rw [hq] at hvv
       rw [hvv]
       have QH := Aside0.mk (own_set HRh.out (own_ne HRh.out HX8.out (by decide)) vv)
       have QR := Aside0.mk (own_set HR.out (own_ne HR.out HX8.out (by decide)) vv)
       have QI := Aside0.mk (HXi.out.far (p := ⟨G8, 0, none⟩) hgG vv)
       have QB := Aside0.mk (HB.out.setCell (p := ⟨G8, 0, none⟩) hGB vv)
       have Q8 : Aside0 (Blk (w4.setCell ⟨G8, 0, none⟩ vv) G8 27 #[vv]) := Aside0.mk (HX8.out.set_ 0 vv)
       clear HRh HR HXi HB HX8 hcx8 hfx8 HD
       generalize w4.setCell ⟨G8, 0, none⟩ vv = w5 at *
       have hcxi := QI.out.cell 0
       go_upto_region 10 with (fail)
       have N := Aside0.mk (Blk.new w5 3 #[.int .i64 ((m : Int) + 1)])
       have hfv := own_fresh QH.out
       have hgj : w.heap.size ≤ w5.heap.size := QB.out.size
       have hfl := own_fresh QR.out
       have h8j : G8 ≠ w5.heap.size := by have := Q8.out.lt; omega
       replace QH := Aside0.mk (QH.out.alloc (.cells #[.int .i64 ((m : Int) + 1)] 3))
       replace QR := Aside0.mk (QR.out.alloc (.cells #[.int .i64 ((m : Int) + 1)] 3))
       replace Q8 := Aside0.mk (Q8.out.alloc (.cells #[.int .i64 ((m : Int) + 1)] 3))
       replace QB := Aside0.mk (QB.out.alloc QB.out.size (.cells #[.int .i64 ((m : Int) + 1)] 3))
       clear QI hcxi
       generalize w5.heap.size = gj at *
       generalize w5.alloc (.cells #[.int .i64 ((m : Int) + 1)] 3) = w6 at *
       have hcj := N.out.cell 0
       have hfj := N.out.frozen 0
       have E1 := Aside0.mk (own_set QR.out hfl (.int .i64 ((m : Int) + 1 + 1)))
       have E2 := Aside0.mk (own_set QH.out hfv (.int .i64 ((m : Int) + 1 + 1)))
       have E3 := Aside0.mk (Q8.out.far (p := ⟨gj, 0, none⟩) h8j (.int .i64 ((m : Int) + 1 + 1)))
       have E4 : Aside0 (Blk (w6.setCell ⟨gj, 0, none⟩ (.int .i64 ((m : Int) + 1 + 1))) gj 3 #[.int .i64 ((m : Int) + 1 + 1)]) := Aside0.mk (N.out.set_ 0 _)
       have E5 := Aside0.mk (QB.out.setCell (p := ⟨gj, 0, none⟩) hgj (.int .i64 ((m : Int) + 1 + 1)))
       go_wp2
       go_roundw
       case rel =>
        subst hvv
        exact ⟨m + 1, gj, _, by omega, rfl, hgj, hfv, ⟨by rw [hq]; exact E1.out⟩, ⟨by rw [hq]; exact E2.out⟩, E3, E4, E5⟩
       case measure =>
        have hb2 : boxN (w6.setCell ⟨gj, 0, none⟩ (.int .i64 ((m : Int) + 1 + 1))) (.pointer (some ⟨gj, 0, none⟩)) = m + 1 + 1 := boxN_of (n := m + 1 + 1) E4.out
        show lv + 1 - boxN (w6.setCell ⟨gj, 0, none⟩ (.int .i64 ((m : Int) + 1 + 1))) (.pointer (some ⟨gj, 0, none⟩)) < lv + 1 - boxN _ (.pointer (some ⟨gi, 0, none⟩))
        rw [hb2, hbox]
        omega
    ·obtain rfl : m = lv := by omega
     have hle : decide (((m + 1 : Nat) : Int) ≤ (m : Int)) = false := decide_eq_false (by omega)
     have hEE := HEND.out
     go_wp2
     go_ret
     refine ⟨_, rfl, ?_, HB.out⟩
     rw [hEE, hn]
     exact HRl.out
end Go.Proofs.YtolbhliepkcihaaDoor.Lab
end
section
namespace Go.Proofs.YtolbhliepkcihaaDoor.QSF
open Go.RowKit Go.Proofs.YtolbhliepkcihaaDoor.Kinds Go.Proofs.YtolbhliepkcihaaDoorW.PrintWords Go.Proofs.YtolbhliepkcihaaDoorW.PrintLast Go.Proofs.YtolbhliepkcihaaDoorW.PrintMore
attribute [local go_sem] max2_int min2_int max_two min_two max_three min_three max_four min_four   -- for this text's walks alone
set_option linter.unusedVariables false
set_option linter.unusedSimpArgs false
def errW : Option Int → Value
 | none => .nilIface
 | some c => .iface 0 (.int .i64 c)
theorem errW_none : errW none = .nilIface := rfl
theorem errW_some (c : Int) : errW (some c) = .iface 0 (.int .i64 c) := rfl
theorem info3 : (Tryd.prog.info? 3).map (fun i => (i.zero, i.size, i.bytes)) = some (some (.int .i64 0), 1, 8) := by kernel_rfl
theorem info22 : (Tryd.prog.info? 22).map (fun i => (i.zero, i.size, i.bytes)) = some (some (.int .u64 0), 1, 8) := by kernel_rfl
theorem info46 : (Tryd.prog.info? 46).map (fun i => (i.zero, i.size, i.bytes)) = some (some (.agg #[(.int .u64 0), (.string ⟨#[]⟩)]), 2, 24) := by kernel_rfl
end Go.Proofs.YtolbhliepkcihaaDoor.QSF
end
section
namespace Go.Proofs.YtolbhliepkcihaaDoor.QSF
open Go.RowKit Go.Proofs.YtolbhliepkcihaaDoor.Kinds Go.Proofs.YtolbhliepkcihaaDoorW.PrintWords Go.Proofs.YtolbhliepkcihaaDoorW.PrintLast Go.Proofs.YtolbhliepkcihaaDoorW.PrintMore
attribute [local go_sem] max2_int min2_int max_two min_two max_three min_three max_four min_four   -- for this text's walks alone
set_option linter.unusedVariables false
set_option linter.unusedSimpArgs false
/-! ### skip_Right: function 38 -/
def skip_Right.l0 : Nat → List (S46) → List (S46) → Int → Int → Option (Bool)
 | 0, _, _, _, _ => none
 | k + 1, x0, x5, x6, x7 => if x7 < x6 then (if 0 ≤ x7 then (if x7 < (x5.length : Int) then (if (((rd_T46 x5 x7).f1).size : Int) > 64 then (some false) else (if x7 > 0 then (if 0 ≤ (wrap64 (x7 - 1)) then (if (wrap64 (x7 - 1)) < (x0.length : Int) then (if ((rd_T46 x0 (wrap64 (x7 - 1))).f0) ≥ ((rd_T46 x5 x7).f0) then (some false) else (skip_Right.l0 k x0 x5 x6 (wrap64 (x7 + 1)))) else (none)) else (none)) else (skip_Right.l0 k x0 x5 x6 (wrap64 (x7 + 1))))) else (none)) else (none)) else (some (decide ((x0.length : Int) ≤ 64)))
def skip_Right.f (k : Nat) (l0 : List (S46)) : Option (Bool) := skip_Right.l0 k l0 l0 (l0.length : Int) 0
theorem skip_Right.mono_l : ∀ k, (∀ y0 y1 y2 y3, LeO (skip_Right.l0 k y0 y1 y2 y3) (skip_Right.l0 (k + 1) y0 y1 y2 y3))
 | 0 => fun _ _ _ _ r h => by simp [skip_Right.l0] at h
 | k + 1 => by
  have ih0 := skip_Right.mono_l k
  ·intro y0 y1 y2 y3
   unfold skip_Right.l0
   repeat' first
   | (with_reducible exact ih0 _ _ _ _)
   | (with_reducible exact LeO.refl _)
   | (with_reducible exact LeO.none _)
   | (with_reducible refine LeO.ite ?_ ?_)
   | (with_reducible refine LeO.bind ?_ (fun _ => ?_))
   | exact ih0 _ _ _ _
   | exact LeO.none _
   | refine LeO.ite ?_ ?_
   | refine LeO.bind ?_ (fun _ => ?_)
theorem skip_Right.mono : ∀ a0 k, LeO (skip_Right.f k a0) (skip_Right.f (k + 1) a0) := by
 intro a0 k
 have ih0 := skip_Right.mono_l k
 unfold skip_Right.f
 repeat' first
   | (with_reducible exact ih0 _ _ _ _)
   | (with_reducible exact LeO.refl _)
   | (with_reducible exact LeO.none _)
   | (with_reducible refine LeO.ite ?_ ?_)
   | (with_reducible refine LeO.bind ?_ (fun _ => ?_))
   | exact ih0 _ _ _ _
   | exact LeO.none _
   | refine LeO.ite ?_ ?_
   | refine LeO.bind ?_ (fun _ => ?_)
set_option maxHeartbeats 8000000 in
set_option maxRecDepth 100000 in
theorem skip_Right.calls (k : Nat) (A0 : Option Addr) (c0 : Nat) (l0 : List (S46)) (r : Bool) (w : World) (hr0 : Kd.C k46 w A0 l0.length l0) (hc0 : l0.length ≤ c0) (h : skip_Right.f k l0 = some r) :
  Calls Tryd.prog 38 #[.slice A0 l0.length c0] w fun e w' => e = .returned (.bool r) ∧ Below w.heap.size w w' := by
 have hu46 := Tryd.underlying46
 have HR0 := Aside0.mk hr0
 have HC0 := Aside0.mk hc0
 clear hr0 hc0
 have HB := Aside0.mk (Below.refl w.heap.size w)
 have H : (skip_Right.l0 k l0 l0 (l0.length : Int) 0) = some r := h
 clear h
 have H' := Aside0.mk H
 clear H
 go_enter Tryd.func38, Tryd.ntmps38
 go_wp2
 repeat (go_quiet (fail); try go_wp2)
 go_loopg [7] k (fun kq v7 w' => ∃ (x7_1 : Int), v7 = .int .i64 x7_1 ∧ Aside0 (skip_Right.l0 kq l0 l0 (l0.length : Int) x7_1 = some r) ∧ Aside0 (kq ≤ k) ∧ Aside0 (Below w.heap.size w w'))
 case atStart => exact ⟨(0), (by first | rfl | (simp; done) | (simp [*]; done)), H', ⟨Nat.le_refl _⟩, ⟨by repeat (first | (with_reducible first | exact HB.out | apply below_alloc | apply pw_below_drewN | apply below_drew1) | exact HB.out)⟩⟩
 case round =>
  clear H'
  obtain ⟨x7_1, rfl, HA, HK1, HB⟩ := hrel
  cases gk with
  | zero => exact absurd HA.out (by simp [skip_Right.l0])
  | succ k1 =>
   have H := HA.out
   clear HA
   simp only [skip_Right.l0] at H
   by_cases c2 : x7_1 < (l0.length : Int)
   ·rw [if_pos c2] at H
    have c2b0 : decide (x7_1 < (l0.length : Int)) = true := decide_eq_true c2
    clear c2
    by_cases c3 : 0 ≤ x7_1
    ·rw [if_pos c3] at H
     have c3b0 : decide (0 ≤ x7_1) = true := decide_eq_true c3
     clear c3
     by_cases c4 : x7_1 < (l0.length : Int)
     ·rw [if_pos c4] at H
      have c4b0 : decide (x7_1 < (l0.length : Int)) = true := decide_eq_true c4
      clear c4
      by_cases c5 : (((rd_T46 l0 x7_1).f1).size : Int) > 64
      ·rw [if_pos c5] at H
       have c5b0 : decide (64 < (((rd_T46 l0 x7_1).f1).size : Int)) = true := decide_eq_true c5
       have c5b1 : decide (64 < ((rd_T46 l0 x7_1).f1).size) = true := decide_eq_true (by omega)
       clear c5
       obtain rfl := Option.some.inj H
       have p101 : 0 ≤ (x7_1 : Int) := of_decide_eq_true (by first | (with_reducible assumption) | assumption)
       have q101 : x7_1 < (l0.length : Int) := of_decide_eq_true (by first | (with_reducible assumption) | assumption)
       obtain ⟨ad101, e101, hx101_0, hx101_1⟩ := at_T46 HR0.out x7_1 p101 q101
       cases e101
       replace hx101_0 := (HB.out.cell (World.block_lt_of_cell? w _ hx101_0)).trans hx101_0
       replace hx101_1 := (HB.out.cell (World.block_lt_of_cell? w _ hx101_1)).trans hx101_1
       replace p101 := eq_true p101
       replace q101 := eq_true q101
       go_wp2_with (first | ((with_reducible refine gate_dst (N := 4) rfl ?_); refine box_event ?hg (N := 4) ?hd (cs := #[.int .u64 0, .string (⟨#[]⟩ : ByteArray)]) (t := 46) ?hr ?_; (case hd => rfl); (case hg => rfl); (case hr => first | (go_simp; done) | (go_simp; rfl)); intro gb102 hg w6 hbox hb; have n0_ := Aside0.mk (below_step (by repeat (first | (with_reducible first | exact HB.out | apply below_alloc | apply pw_below_drewN | apply below_drew1) | exact HB.out)) hb); have n1_ := Aside0.mk (hbox); have n2_ := Aside0.mk ((by rw [hg]; exact (below_size (by repeat (first | (with_reducible first | exact HB.out | apply below_alloc | apply pw_below_drewN | apply below_drew1) | exact HB.out))) : w.heap.size ≤ gb102)); have n3_ := Aside0.mk ((by rw [hg]; exact (below_size (by repeat (first | (with_reducible first | exact HB.out | apply below_alloc | apply pw_below_drewN | apply below_drew1) | exact HB.out))) : w.heap.size ≤ gb102)); clear HB; have HB := n0_; have BK102 := n1_; have GW102 := n2_; have GE102 := n3_; clear n0_ n1_ n2_ n3_; clear hb hbox hg; have hcz7_0 : w6.cell? ⟨gb102, 0, none⟩ = some (.int .u64 0) := (blk_cell BK102.out 0).trans rfl; have hcz7_1 : w6.cell? ⟨gb102, 1, none⟩ = some (.string (⟨#[]⟩ : ByteArray)) := (blk_cell BK102.out 1).trans rfl; have hfz7_0 := blk_frozen BK102.out 0; have hfz7_1 := blk_frozen BK102.out 1))
       repeat (go_quiet (first | ((with_reducible refine gate_dst (N := 4) rfl ?_); refine box_event ?hg (N := 4) ?hd (cs := #[.int .u64 0, .string (⟨#[]⟩ : ByteArray)]) (t := 46) ?hr ?_; (case hd => rfl); (case hg => rfl); (case hr => first | (go_simp; done) | (go_simp; rfl)); intro gb102 hg w6 hbox hb; have n0_ := Aside0.mk (below_step (by repeat (first | (with_reducible first | exact HB.out | apply below_alloc | apply pw_below_drewN | apply below_drew1) | exact HB.out)) hb); have n1_ := Aside0.mk (hbox); have n2_ := Aside0.mk ((by rw [hg]; exact (below_size (by repeat (first | (with_reducible first | exact HB.out | apply below_alloc | apply pw_below_drewN | apply below_drew1) | exact HB.out))) : w.heap.size ≤ gb102)); have n3_ := Aside0.mk ((by rw [hg]; exact (below_size (by repeat (first | (with_reducible first | exact HB.out | apply below_alloc | apply pw_below_drewN | apply below_drew1) | exact HB.out))) : w.heap.size ≤ gb102)); clear HB; have HB := n0_; have BK102 := n1_; have GW102 := n2_; have GE102 := n3_; clear n0_ n1_ n2_ n3_; clear hb hbox hg; have hcz7_0 : w6.cell? ⟨gb102, 0, none⟩ = some (.int .u64 0) := (blk_cell BK102.out 0).trans rfl; have hcz7_1 : w6.cell? ⟨gb102, 1, none⟩ = some (.string (⟨#[]⟩ : ByteArray)) := (blk_cell BK102.out 1).trans rfl; have hfz7_0 := blk_frozen BK102.out 0; have hfz7_1 := blk_frozen BK102.out 1)); try go_wp2_with (first | ((with_reducible refine gate_dst (N := 4) rfl ?_); refine box_event ?hg (N := 4) ?hd (cs := #[.int .u64 0, .string (⟨#[]⟩ : ByteArray)]) (t := 46) ?hr ?_; (case hd => rfl); (case hg => rfl); (case hr => first | (go_simp; done) | (go_simp; rfl)); intro gb102 hg w6 hbox hb; have n0_ := Aside0.mk (below_step (by repeat (first | (with_reducible first | exact HB.out | apply below_alloc | apply pw_below_drewN | apply below_drew1) | exact HB.out)) hb); have n1_ := Aside0.mk (hbox); have n2_ := Aside0.mk ((by rw [hg]; exact (below_size (by repeat (first | (with_reducible first | exact HB.out | apply below_alloc | apply pw_below_drewN | apply below_drew1) | exact HB.out))) : w.heap.size ≤ gb102)); have n3_ := Aside0.mk ((by rw [hg]; exact (below_size (by repeat (first | (with_reducible first | exact HB.out | apply below_alloc | apply pw_below_drewN | apply below_drew1) | exact HB.out))) : w.heap.size ≤ gb102)); clear HB; have HB := n0_; have BK102 := n1_; have GW102 := n2_; have GE102 := n3_; clear n0_ n1_ n2_ n3_; clear hb hbox hg; have hcz7_0 : w6.cell? ⟨gb102, 0, none⟩ = some (.int .u64 0) := (blk_cell BK102.out 0).trans rfl; have hcz7_1 : w6.cell? ⟨gb102, 1, none⟩ = some (.string (⟨#[]⟩ : ByteArray)) := (blk_cell BK102.out 1).trans rfl; have hfz7_0 := blk_frozen BK102.out 0; have hfz7_1 := blk_frozen BK102.out 1)))
       go_ret
       exact ⟨by first | rfl | (simp [errW_none, errW_some] <;> rfl) | (simp [*, errW_none, errW_some] <;> rfl), by repeat (first | (with_reducible first | exact HB.out | apply below_alloc | apply pw_below_drewN | apply below_drew1 | refine below_set ?_ GE102.out) | exact HB.out)⟩
      ·rw [if_neg c5] at H
       have c5b0 : decide (64 < (((rd_T46 l0 x7_1).f1).size : Int)) = false := decide_eq_false c5
       have c5b1 : decide (64 < ((rd_T46 l0 x7_1).f1).size) = false := decide_eq_false (by omega)
       clear c5
       by_cases c8 : x7_1 > 0
       ·rw [if_pos c8] at H
        have c8b0 : decide (0 < x7_1) = true := decide_eq_true c8
        clear c8
        obtain ⟨ji9, hji9⟩ : ∃ j_ : Int, (wrap64 (x7_1 - 1)) = j_ := ⟨_, rfl⟩
        replace H : (if 0 ≤ (ji9) then (if (ji9) < (l0.length : Int) then (if ((rd_T46 l0 (ji9)).f0) ≥ ((rd_T46 l0 x7_1).f0) then (some false) else (skip_Right.l0 k1 l0 l0 (l0.length : Int) (wrap64 (x7_1 + 1)))) else (none)) else (none)) = some r := by first | (rw [hji9] at H; exact H) | (simp only [hji9] at H ⊢; exact H)
        have hji9w : (IntKind.i64.wrap (x7_1 - 1)) = ji9 := (i64_w _).trans hji9
        by_cases c10 : 0 ≤ (ji9)
        ·rw [if_pos c10] at H
         have c10b0 : decide (0 ≤ (ji9)) = true := decide_eq_true c10
         clear c10
         by_cases c11 : (ji9) < (l0.length : Int)
         ·rw [if_pos c11] at H
          have c11b0 : decide ((ji9) < (l0.length : Int)) = true := decide_eq_true c11
          clear c11
          by_cases c12 : ((rd_T46 l0 (ji9)).f0) ≥ ((rd_T46 l0 x7_1).f0)
          ·rw [if_pos c12] at H
           have c12b0 : decide (((rd_T46 l0 x7_1).f0) ≤ ((rd_T46 l0 (ji9)).f0)) = true := decide_eq_true c12
           clear c12
           obtain rfl := Option.some.inj H
           have p101 : 0 ≤ (x7_1 : Int) := of_decide_eq_true (by first | (with_reducible assumption) | assumption)
           have q101 : x7_1 < (l0.length : Int) := of_decide_eq_true (by first | (with_reducible assumption) | assumption)
           obtain ⟨ad101, e101, hx101_0, hx101_1⟩ := at_T46 HR0.out x7_1 p101 q101
           cases e101
           replace hx101_0 := (HB.out.cell (World.block_lt_of_cell? w _ hx101_0)).trans hx101_0
           replace hx101_1 := (HB.out.cell (World.block_lt_of_cell? w _ hx101_1)).trans hx101_1
           replace p101 := eq_true p101
           replace q101 := eq_true q101
           go_wp2_with (first | ((with_reducible refine gate_dst (N := 4) rfl ?_); refine box_event ?hg (N := 4) ?hd (cs := #[.int .u64 0, .string (⟨#[]⟩ : ByteArray)]) (t := 46) ?hr ?_; (case hd => rfl); (case hg => rfl); (case hr => first | (go_simp; done) | (go_simp; rfl)); intro gb102 hg w13 hbox hb; have n0_ := Aside0.mk (below_step (by repeat (first | (with_reducible first | exact HB.out | apply below_alloc | apply pw_below_drewN | apply below_drew1) | exact HB.out)) hb); have n1_ := Aside0.mk (hbox); have n2_ := Aside0.mk ((by rw [hg]; exact (below_size (by repeat (first | (with_reducible first | exact HB.out | apply below_alloc | apply pw_below_drewN | apply below_drew1) | exact HB.out))) : w.heap.size ≤ gb102)); have n3_ := Aside0.mk ((by rw [hg]; exact (below_size (by repeat (first | (with_reducible first | exact HB.out | apply below_alloc | apply pw_below_drewN | apply below_drew1) | exact HB.out))) : w.heap.size ≤ gb102)); clear HB; have HB := n0_; have BK102 := n1_; have GW102 := n2_; have GE102 := n3_; clear n0_ n1_ n2_ n3_; clear hb hbox hg; have hcz14_0 : w13.cell? ⟨gb102, 0, none⟩ = some (.int .u64 0) := (blk_cell BK102.out 0).trans rfl; have hcz14_1 : w13.cell? ⟨gb102, 1, none⟩ = some (.string (⟨#[]⟩ : ByteArray)) := (blk_cell BK102.out 1).trans rfl; have hfz14_0 := blk_frozen BK102.out 0; have hfz14_1 := blk_frozen BK102.out 1; have p103 : 0 ≤ ((ji9) : Int) := of_decide_eq_true (by first | (with_reducible assumption) | assumption); have q103 : (ji9) < (l0.length : Int) := of_decide_eq_true (by first | (with_reducible assumption) | assumption); obtain ⟨ad103, e103, hx103_0, hx103_1⟩ := at_T46 HR0.out (ji9) p103 q103; obtain rfl : ad101 = ad103 := (by injection e103); have hn103_0 : ad101.block ≠ gb102 := Nat.ne_of_lt (Nat.lt_of_lt_of_le (by have := World.block_lt_of_cell? _ _ hx103_0; first | rwa [add_block] at this | exact this) GW102.out); have hn103_1 : ad101.block ≠ gb102 := Nat.ne_of_lt (Nat.lt_of_lt_of_le (by have := World.block_lt_of_cell? _ _ hx103_0; first | rwa [add_block] at this | exact this) GW102.out); replace hx103_0 := (HB.out.cell (World.block_lt_of_cell? w _ hx103_0)).trans hx103_0; replace hx103_1 := (HB.out.cell (World.block_lt_of_cell? w _ hx103_1)).trans hx103_1; replace hx103_0 := (cell_far (p := ⟨gb102, 0, none⟩) (by first | (rw [add_block]; exact hn103_0) | (show (Addr.add _ _).block ≠ _; rw [add_block]; exact hn103_0) | exact hn103_0) (.int .u64 ((rd_T46 l0 x7_1).f0))).trans hx103_0; replace hx103_1 := (cell_far (p := ⟨gb102, 0, none⟩) (by first | (rw [add_block]; exact hn103_0) | (show (Addr.add _ _).block ≠ _; rw [add_block]; exact hn103_0) | exact hn103_0) (.int .u64 ((rd_T46 l0 x7_1).f0))).trans hx103_1; replace hx103_0 := (cell_far (p := ⟨gb102, 1, none⟩) (by first | (rw [add_block]; exact hn103_1) | (show (Addr.add _ _).block ≠ _; rw [add_block]; exact hn103_1) | exact hn103_1) (.string ((rd_T46 l0 x7_1).f1))).trans hx103_0; replace hx103_1 := (cell_far (p := ⟨gb102, 1, none⟩) (by first | (rw [add_block]; exact hn103_1) | (show (Addr.add _ _).block ≠ _; rw [add_block]; exact hn103_1) | exact hn103_1) (.string ((rd_T46 l0 x7_1).f1))).trans hx103_1; (try have hy103_0 := fun (n_ : Nat) => (show ((((w13.drewN n_).setCell ⟨gb102, 0, none⟩ (.int .u64 ((rd_T46 l0 x7_1).f0))).setCell ⟨gb102, 1, none⟩ (.string ((rd_T46 l0 x7_1).f1)))).cell? _ = some _ from hx103_0)); (try have hy103_1 := fun (n_ : Nat) => (show ((((w13.drewN n_).setCell ⟨gb102, 0, none⟩ (.int .u64 ((rd_T46 l0 x7_1).f0))).setCell ⟨gb102, 1, none⟩ (.string ((rd_T46 l0 x7_1).f1)))).cell? _ = some _ from hx103_1)); clear hn103_0; clear hn103_1; replace p103 := eq_true p103; replace q103 := eq_true q103))
           repeat (go_quiet (first | ((with_reducible refine gate_dst (N := 4) rfl ?_); refine box_event ?hg (N := 4) ?hd (cs := #[.int .u64 0, .string (⟨#[]⟩ : ByteArray)]) (t := 46) ?hr ?_; (case hd => rfl); (case hg => rfl); (case hr => first | (go_simp; done) | (go_simp; rfl)); intro gb102 hg w13 hbox hb; have n0_ := Aside0.mk (below_step (by repeat (first | (with_reducible first | exact HB.out | apply below_alloc | apply pw_below_drewN | apply below_drew1) | exact HB.out)) hb); have n1_ := Aside0.mk (hbox); have n2_ := Aside0.mk ((by rw [hg]; exact (below_size (by repeat (first | (with_reducible first | exact HB.out | apply below_alloc | apply pw_below_drewN | apply below_drew1) | exact HB.out))) : w.heap.size ≤ gb102)); have n3_ := Aside0.mk ((by rw [hg]; exact (below_size (by repeat (first | (with_reducible first | exact HB.out | apply below_alloc | apply pw_below_drewN | apply below_drew1) | exact HB.out))) : w.heap.size ≤ gb102)); clear HB; have HB := n0_; have BK102 := n1_; have GW102 := n2_; have GE102 := n3_; clear n0_ n1_ n2_ n3_; clear hb hbox hg; have hcz14_0 : w13.cell? ⟨gb102, 0, none⟩ = some (.int .u64 0) := (blk_cell BK102.out 0).trans rfl; have hcz14_1 : w13.cell? ⟨gb102, 1, none⟩ = some (.string (⟨#[]⟩ : ByteArray)) := (blk_cell BK102.out 1).trans rfl; have hfz14_0 := blk_frozen BK102.out 0; have hfz14_1 := blk_frozen BK102.out 1; have p103 : 0 ≤ ((ji9) : Int) := of_decide_eq_true (by first | (with_reducible assumption) | assumption); have q103 : (ji9) < (l0.length : Int) := of_decide_eq_true (by first | (with_reducible assumption) | assumption); obtain ⟨ad103, e103, hx103_0, hx103_1⟩ := at_T46 HR0.out (ji9) p103 q103; obtain rfl : ad101 = ad103 := (by injection e103); have hn103_0 : ad101.block ≠ gb102 := Nat.ne_of_lt (Nat.lt_of_lt_of_le (by have := World.block_lt_of_cell? _ _ hx103_0; first | rwa [add_block] at this | exact this) GW102.out); have hn103_1 : ad101.block ≠ gb102 := Nat.ne_of_lt (Nat.lt_of_lt_of_le (by have := World.block_lt_of_cell? _ _ hx103_0; first | rwa [add_block] at this | exact this) GW102.out); replace hx103_0 := (HB.out.cell (World.block_lt_of_cell? w _ hx103_0)).trans hx103_0; replace hx103_1 := (HB.out.cell (World.block_lt_of_cell? w _ hx103_1)).trans hx103_1; replace hx103_0 := (cell_far (p := ⟨gb102, 0, none⟩) (by first | (rw [add_block]; exact hn103_0) | (show (Addr.add _ _).block ≠ _; rw [add_block]; exact hn103_0) | exact hn103_0) (.int .u64 ((rd_T46 l0 x7_1).f0))).trans hx103_0; replace hx103_1 := (cell_far (p := ⟨gb102, 0, none⟩) (by first | (rw [add_block]; exact hn103_0) | (show (Addr.add _ _).block ≠ _; rw [add_block]; exact hn103_0) | exact hn103_0) (.int .u64 ((rd_T46 l0 x7_1).f0))).trans hx103_1; replace hx103_0 := (cell_far (p := ⟨gb102, 1, none⟩) (by first | (rw [add_block]; exact hn103_1) | (show (Addr.add _ _).block ≠ _; rw [add_block]; exact hn103_1) | exact hn103_1) (.string ((rd_T46 l0 x7_1).f1))).trans hx103_0; replace hx103_1 := (cell_far (p := ⟨gb102, 1, none⟩) (by first | (rw [add_block]; exact hn103_1) | (show (Addr.add _ _).block ≠ _; rw [add_block]; exact hn103_1) | exact hn103_1) (.string ((rd_T46 l0 x7_1).f1))).trans hx103_1; (try have hy103_0 := fun (n_ : Nat) => (show ((((w13.drewN n_).setCell ⟨gb102, 0, none⟩ (.int .u64 ((rd_T46 l0 x7_1).f0))).setCell ⟨gb102, 1, none⟩ (.string ((rd_T46 l0 x7_1).f1)))).cell? _ = some _ from hx103_0)); (try have hy103_1 := fun (n_ : Nat) => (show ((((w13.drewN n_).setCell ⟨gb102, 0, none⟩ (.int .u64 ((rd_T46 l0 x7_1).f0))).setCell ⟨gb102, 1, none⟩ (.string ((rd_T46 l0 x7_1).f1)))).cell? _ = some _ from hx103_1)); clear hn103_0; clear hn103_1; replace p103 := eq_true p103; replace q103 := eq_true q103)); try go_wp2_with (first | ((with_reducible refine gate_dst (N := 4) rfl ?_); refine box_event ?hg (N := 4) ?hd (cs := #[.int .u64 0, .string (⟨#[]⟩ : ByteArray)]) (t := 46) ?hr ?_; (case hd => rfl); (case hg => rfl); (case hr => first | (go_simp; done) | (go_simp; rfl)); intro gb102 hg w13 hbox hb; have n0_ := Aside0.mk (below_step (by repeat (first | (with_reducible first | exact HB.out | apply below_alloc | apply pw_below_drewN | apply below_drew1) | exact HB.out)) hb); have n1_ := Aside0.mk (hbox); have n2_ := Aside0.mk ((by rw [hg]; exact (below_size (by repeat (first | (with_reducible first | exact HB.out | apply below_alloc | apply pw_below_drewN | apply below_drew1) | exact HB.out))) : w.heap.size ≤ gb102)); have n3_ := Aside0.mk ((by rw [hg]; exact (below_size (by repeat (first | (with_reducible first | exact HB.out | apply below_alloc | apply pw_below_drewN | apply below_drew1) | exact HB.out))) : w.heap.size ≤ gb102)); clear HB; have HB := n0_; have BK102 := n1_; have GW102 := n2_; have GE102 := n3_; clear n0_ n1_ n2_ n3_; clear hb hbox hg; have hcz14_0 : w13.cell? ⟨gb102, 0, none⟩ = some (.int .u64 0) := (blk_cell BK102.out 0).trans rfl; have hcz14_1 : w13.cell? ⟨gb102, 1, none⟩ = some (.string (⟨#[]⟩ : ByteArray)) := (blk_cell BK102.out 1).trans rfl; have hfz14_0 := blk_frozen BK102.out 0; have hfz14_1 := blk_frozen BK102.out 1; have p103 : 0 ≤ ((ji9) : Int) := of_decide_eq_true (by first | (with_reducible assumption) | assumption); have q103 : (ji9) < (l0.length : Int) := of_decide_eq_true (by first | (with_reducible assumption) | assumption); obtain ⟨ad103, e103, hx103_0, hx103_1⟩ := at_T46 HR0.out (ji9) p103 q103; obtain rfl : ad101 = ad103 := (by injection e103); have hn103_0 : ad101.block ≠ gb102 := Nat.ne_of_lt (Nat.lt_of_lt_of_le (by have := World.block_lt_of_cell? _ _ hx103_0; first | rwa [add_block] at this | exact this) GW102.out); have hn103_1 : ad101.block ≠ gb102 := Nat.ne_of_lt (Nat.lt_of_lt_of_le (by have := World.block_lt_of_cell? _ _ hx103_0; first | rwa [add_block] at this | exact this) GW102.out); replace hx103_0 := (HB.out.cell (World.block_lt_of_cell? w _ hx103_0)).trans hx103_0; replace hx103_1 := (HB.out.cell (World.block_lt_of_cell? w _ hx103_1)).trans hx103_1; replace hx103_0 := (cell_far (p := ⟨gb102, 0, none⟩) (by first | (rw [add_block]; exact hn103_0) | (show (Addr.add _ _).block ≠ _; rw [add_block]; exact hn103_0) | exact hn103_0) (.int .u64 ((rd_T46 l0 x7_1).f0))).trans hx103_0; replace hx103_1 := (cell_far (p := ⟨gb102, 0, none⟩) (by first | (rw [add_block]; exact hn103_0) | (show (Addr.add _ _).block ≠ _; rw [add_block]; exact hn103_0) | exact hn103_0) (.int .u64 ((rd_T46 l0 x7_1).f0))).trans hx103_1; replace hx103_0 := (cell_far (p := ⟨gb102, 1, none⟩) (by first | (rw [add_block]; exact hn103_1) | (show (Addr.add _ _).block ≠ _; rw [add_block]; exact hn103_1) | exact hn103_1) (.string ((rd_T46 l0 x7_1).f1))).trans hx103_0; replace hx103_1 := (cell_far (p := ⟨gb102, 1, none⟩) (by first | (rw [add_block]; exact hn103_1) | (show (Addr.add _ _).block ≠ _; rw [add_block]; exact hn103_1) | exact hn103_1) (.string ((rd_T46 l0 x7_1).f1))).trans hx103_1; (try have hy103_0 := fun (n_ : Nat) => (show ((((w13.drewN n_).setCell ⟨gb102, 0, none⟩ (.int .u64 ((rd_T46 l0 x7_1).f0))).setCell ⟨gb102, 1, none⟩ (.string ((rd_T46 l0 x7_1).f1)))).cell? _ = some _ from hx103_0)); (try have hy103_1 := fun (n_ : Nat) => (show ((((w13.drewN n_).setCell ⟨gb102, 0, none⟩ (.int .u64 ((rd_T46 l0 x7_1).f0))).setCell ⟨gb102, 1, none⟩ (.string ((rd_T46 l0 x7_1).f1)))).cell? _ = some _ from hx103_1)); clear hn103_0; clear hn103_1; replace p103 := eq_true p103; replace q103 := eq_true q103)))
           go_ret
           exact ⟨by first | rfl | (simp [errW_none, errW_some] <;> rfl) | (simp only [← hji9]; first | rfl | (simp [errW_none, errW_some] <;> rfl)) | (simp [*, errW_none, errW_some] <;> rfl), by repeat (first | (with_reducible first | exact HB.out | apply below_alloc | apply pw_below_drewN | apply below_drew1 | refine below_set ?_ GE102.out) | exact HB.out)⟩
          ·rw [if_neg c12] at H
           have c12b0 : decide (((rd_T46 l0 x7_1).f0) ≤ ((rd_T46 l0 (ji9)).f0)) = false := decide_eq_false c12
           clear c12
           have H' := Aside0.mk H
           clear H
           have p101 : 0 ≤ (x7_1 : Int) := of_decide_eq_true (by first | (with_reducible assumption) | assumption)
           have q101 : x7_1 < (l0.length : Int) := of_decide_eq_true (by first | (with_reducible assumption) | assumption)
           obtain ⟨ad101, e101, hx101_0, hx101_1⟩ := at_T46 HR0.out x7_1 p101 q101
           cases e101
           replace hx101_0 := (HB.out.cell (World.block_lt_of_cell? w _ hx101_0)).trans hx101_0
           replace hx101_1 := (HB.out.cell (World.block_lt_of_cell? w _ hx101_1)).trans hx101_1
           replace p101 := eq_true p101
           replace q101 := eq_true q101
           go_wp2_with (first | ((with_reducible refine gate_dst (N := 4) rfl ?_); refine box_event ?hg (N := 4) ?hd (cs := #[.int .u64 0, .string (⟨#[]⟩ : ByteArray)]) (t := 46) ?hr ?_; (case hd => rfl); (case hg => rfl); (case hr => first | (go_simp; done) | (go_simp; rfl)); intro gb102 hg w15 hbox hb; have n0_ := Aside0.mk (below_step (by repeat (first | (with_reducible first | exact HB.out | apply below_alloc | apply pw_below_drewN | apply below_drew1) | exact HB.out)) hb); have n1_ := Aside0.mk (hbox); have n2_ := Aside0.mk ((by rw [hg]; exact (below_size (by repeat (first | (with_reducible first | exact HB.out | apply below_alloc | apply pw_below_drewN | apply below_drew1) | exact HB.out))) : w.heap.size ≤ gb102)); have n3_ := Aside0.mk ((by rw [hg]; exact (below_size (by repeat (first | (with_reducible first | exact HB.out | apply below_alloc | apply pw_below_drewN | apply below_drew1) | exact HB.out))) : w.heap.size ≤ gb102)); clear HB; have HB := n0_; have BK102 := n1_; have GW102 := n2_; have GE102 := n3_; clear n0_ n1_ n2_ n3_; clear hb hbox hg; have hcz16_0 : w15.cell? ⟨gb102, 0, none⟩ = some (.int .u64 0) := (blk_cell BK102.out 0).trans rfl; have hcz16_1 : w15.cell? ⟨gb102, 1, none⟩ = some (.string (⟨#[]⟩ : ByteArray)) := (blk_cell BK102.out 1).trans rfl; have hfz16_0 := blk_frozen BK102.out 0; have hfz16_1 := blk_frozen BK102.out 1; have p103 : 0 ≤ ((ji9) : Int) := of_decide_eq_true (by first | (with_reducible assumption) | assumption); have q103 : (ji9) < (l0.length : Int) := of_decide_eq_true (by first | (with_reducible assumption) | assumption); obtain ⟨ad103, e103, hx103_0, hx103_1⟩ := at_T46 HR0.out (ji9) p103 q103; obtain rfl : ad101 = ad103 := (by injection e103); have hn103_0 : ad101.block ≠ gb102 := Nat.ne_of_lt (Nat.lt_of_lt_of_le (by have := World.block_lt_of_cell? _ _ hx103_0; first | rwa [add_block] at this | exact this) GW102.out); have hn103_1 : ad101.block ≠ gb102 := Nat.ne_of_lt (Nat.lt_of_lt_of_le (by have := World.block_lt_of_cell? _ _ hx103_0; first | rwa [add_block] at this | exact this) GW102.out); replace hx103_0 := (HB.out.cell (World.block_lt_of_cell? w _ hx103_0)).trans hx103_0; replace hx103_1 := (HB.out.cell (World.block_lt_of_cell? w _ hx103_1)).trans hx103_1; replace hx103_0 := (cell_far (p := ⟨gb102, 0, none⟩) (by first | (rw [add_block]; exact hn103_0) | (show (Addr.add _ _).block ≠ _; rw [add_block]; exact hn103_0) | exact hn103_0) (.int .u64 ((rd_T46 l0 x7_1).f0))).trans hx103_0; replace hx103_1 := (cell_far (p := ⟨gb102, 0, none⟩) (by first | (rw [add_block]; exact hn103_0) | (show (Addr.add _ _).block ≠ _; rw [add_block]; exact hn103_0) | exact hn103_0) (.int .u64 ((rd_T46 l0 x7_1).f0))).trans hx103_1; replace hx103_0 := (cell_far (p := ⟨gb102, 1, none⟩) (by first | (rw [add_block]; exact hn103_1) | (show (Addr.add _ _).block ≠ _; rw [add_block]; exact hn103_1) | exact hn103_1) (.string ((rd_T46 l0 x7_1).f1))).trans hx103_0; replace hx103_1 := (cell_far (p := ⟨gb102, 1, none⟩) (by first | (rw [add_block]; exact hn103_1) | (show (Addr.add _ _).block ≠ _; rw [add_block]; exact hn103_1) | exact hn103_1) (.string ((rd_T46 l0 x7_1).f1))).trans hx103_1; (try have hy103_0 := fun (n_ : Nat) => (show ((((w15.drewN n_).setCell ⟨gb102, 0, none⟩ (.int .u64 ((rd_T46 l0 x7_1).f0))).setCell ⟨gb102, 1, none⟩ (.string ((rd_T46 l0 x7_1).f1)))).cell? _ = some _ from hx103_0)); (try have hy103_1 := fun (n_ : Nat) => (show ((((w15.drewN n_).setCell ⟨gb102, 0, none⟩ (.int .u64 ((rd_T46 l0 x7_1).f0))).setCell ⟨gb102, 1, none⟩ (.string ((rd_T46 l0 x7_1).f1)))).cell? _ = some _ from hx103_1)); clear hn103_0; clear hn103_1; replace p103 := eq_true p103; replace q103 := eq_true q103))
           repeat (go_quiet (first | ((with_reducible refine gate_dst (N := 4) rfl ?_); refine box_event ?hg (N := 4) ?hd (cs := #[.int .u64 0, .string (⟨#[]⟩ : ByteArray)]) (t := 46) ?hr ?_; (case hd => rfl); (case hg => rfl); (case hr => first | (go_simp; done) | (go_simp; rfl)); intro gb102 hg w15 hbox hb; have n0_ := Aside0.mk (below_step (by repeat (first | (with_reducible first | exact HB.out | apply below_alloc | apply pw_below_drewN | apply below_drew1) | exact HB.out)) hb); have n1_ := Aside0.mk (hbox); have n2_ := Aside0.mk ((by rw [hg]; exact (below_size (by repeat (first | (with_reducible first | exact HB.out | apply below_alloc | apply pw_below_drewN | apply below_drew1) | exact HB.out))) : w.heap.size ≤ gb102)); have n3_ := Aside0.mk ((by rw [hg]; exact (below_size (by repeat (first | (with_reducible first | exact HB.out | apply below_alloc | apply pw_below_drewN | apply below_drew1) | exact HB.out))) : w.heap.size ≤ gb102)); clear HB; have HB := n0_; have BK102 := n1_; have GW102 := n2_; have GE102 := n3_; clear n0_ n1_ n2_ n3_; clear hb hbox hg; have hcz16_0 : w15.cell? ⟨gb102, 0, none⟩ = some (.int .u64 0) := (blk_cell BK102.out 0).trans rfl; have hcz16_1 : w15.cell? ⟨gb102, 1, none⟩ = some (.string (⟨#[]⟩ : ByteArray)) := (blk_cell BK102.out 1).trans rfl; have hfz16_0 := blk_frozen BK102.out 0; have hfz16_1 := blk_frozen BK102.out 1; have p103 : 0 ≤ ((ji9) : Int) := of_decide_eq_true (by first | (with_reducible assumption) | assumption); have q103 : (ji9) < (l0.length : Int) := of_decide_eq_true (by first | (with_reducible assumption) | assumption); obtain ⟨ad103, e103, hx103_0, hx103_1⟩ := at_T46 HR0.out (ji9) p103 q103; obtain rfl : ad101 = ad103 := (by injection e103); have hn103_0 : ad101.block ≠ gb102 := Nat.ne_of_lt (Nat.lt_of_lt_of_le (by have := World.block_lt_of_cell? _ _ hx103_0; first | rwa [add_block] at this | exact this) GW102.out); have hn103_1 : ad101.block ≠ gb102 := Nat.ne_of_lt (Nat.lt_of_lt_of_le (by have := World.block_lt_of_cell? _ _ hx103_0; first | rwa [add_block] at this | exact this) GW102.out); replace hx103_0 := (HB.out.cell (World.block_lt_of_cell? w _ hx103_0)).trans hx103_0; replace hx103_1 := (HB.out.cell (World.block_lt_of_cell? w _ hx103_1)).trans hx103_1; replace hx103_0 := (cell_far (p := ⟨gb102, 0, none⟩) (by first | (rw [add_block]; exact hn103_0) | (show (Addr.add _ _).block ≠ _; rw [add_block]; exact hn103_0) | exact hn103_0) (.int .u64 ((rd_T46 l0 x7_1).f0))).trans hx103_0; replace hx103_1 := (cell_far (p := ⟨gb102, 0, none⟩) (by first | (rw [add_block]; exact hn103_0) | (show (Addr.add _ _).block ≠ _; rw [add_block]; exact hn103_0) | exact hn103_0) (.int .u64 ((rd_T46 l0 x7_1).f0))).trans hx103_1; replace hx103_0 := (cell_far (p := ⟨gb102, 1, none⟩) (by first | (rw [add_block]; exact hn103_1) | (show (Addr.add _ _).block ≠ _; rw [add_block]; exact hn103_1) | exact hn103_1) (.string ((rd_T46 l0 x7_1).f1))).trans hx103_0; replace hx103_1 := (cell_far (p := ⟨gb102, 1, none⟩) (by first | (rw [add_block]; exact hn103_1) | (show (Addr.add _ _).block ≠ _; rw [add_block]; exact hn103_1) | exact hn103_1) (.string ((rd_T46 l0 x7_1).f1))).trans hx103_1; (try have hy103_0 := fun (n_ : Nat) => (show ((((w15.drewN n_).setCell ⟨gb102, 0, none⟩ (.int .u64 ((rd_T46 l0 x7_1).f0))).setCell ⟨gb102, 1, none⟩ (.string ((rd_T46 l0 x7_1).f1)))).cell? _ = some _ from hx103_0)); (try have hy103_1 := fun (n_ : Nat) => (show ((((w15.drewN n_).setCell ⟨gb102, 0, none⟩ (.int .u64 ((rd_T46 l0 x7_1).f0))).setCell ⟨gb102, 1, none⟩ (.string ((rd_T46 l0 x7_1).f1)))).cell? _ = some _ from hx103_1)); clear hn103_0; clear hn103_1; replace p103 := eq_true p103; replace q103 := eq_true q103)); try go_wp2_with (first | ((with_reducible refine gate_dst (N := 4) rfl ?_); refine box_event ?hg (N := 4) ?hd (cs := #[.int .u64 0, .string (⟨#[]⟩ : ByteArray)]) (t := 46) ?hr ?_; (case hd => rfl); (case hg => rfl); (case hr => first | (go_simp; done) | (go_simp; rfl)); intro gb102 hg w15 hbox hb; have n0_ := Aside0.mk (below_step (by repeat (first | (with_reducible first | exact HB.out | apply below_alloc | apply pw_below_drewN | apply below_drew1) | exact HB.out)) hb); have n1_ := Aside0.mk (hbox); have n2_ := Aside0.mk ((by rw [hg]; exact (below_size (by repeat (first | (with_reducible first | exact HB.out | apply below_alloc | apply pw_below_drewN | apply below_drew1) | exact HB.out))) : w.heap.size ≤ gb102)); have n3_ := Aside0.mk ((by rw [hg]; exact (below_size (by repeat (first | (with_reducible first | exact HB.out | apply below_alloc | apply pw_below_drewN | apply below_drew1) | exact HB.out))) : w.heap.size ≤ gb102)); clear HB; have HB := n0_; have BK102 := n1_; have GW102 := n2_; have GE102 := n3_; clear n0_ n1_ n2_ n3_; clear hb hbox hg; have hcz16_0 : w15.cell? ⟨gb102, 0, none⟩ = some (.int .u64 0) := (blk_cell BK102.out 0).trans rfl; have hcz16_1 : w15.cell? ⟨gb102, 1, none⟩ = some (.string (⟨#[]⟩ : ByteArray)) := (blk_cell BK102.out 1).trans rfl; have hfz16_0 := blk_frozen BK102.out 0; have hfz16_1 := blk_frozen BK102.out 1; have p103 : 0 ≤ ((ji9) : Int) := of_decide_eq_true (by first | (with_reducible assumption) | assumption); have q103 : (ji9) < (l0.length : Int) := of_decide_eq_true (by first | (with_reducible assumption) | assumption); obtain ⟨ad103, e103, hx103_0, hx103_1⟩ := at_T46 HR0.out (ji9) p103 q103; obtain rfl : ad101 = ad103 := (by injection e103); have hn103_0 : ad101.block ≠ gb102 := Nat.ne_of_lt (Nat.lt_of_lt_of_le (by have := World.block_lt_of_cell? _ _ hx103_0; first | rwa [add_block] at this | exact this) GW102.out); have hn103_1 : ad101.block ≠ gb102 := Nat.ne_of_lt (Nat.lt_of_lt_of_le (by have := World.block_lt_of_cell? _ _ hx103_0; first | rwa [add_block] at this | exact this) GW102.out); replace hx103_0 := (HB.out.cell (World.block_lt_of_cell? w _ hx103_0)).trans hx103_0; replace hx103_1 := (HB.out.cell (World.block_lt_of_cell? w _ hx103_1)).trans hx103_1; replace hx103_0 := (cell_far (p := ⟨gb102, 0, none⟩) (by first | (rw [add_block]; exact hn103_0) | (show (Addr.add _ _).block ≠ _; rw [add_block]; exact hn103_0) | exact hn103_0) (.int .u64 ((rd_T46 l0 x7_1).f0))).trans hx103_0; replace hx103_1 := (cell_far (p := ⟨gb102, 0, none⟩) (by first | (rw [add_block]; exact hn103_0) | (show (Addr.add _ _).block ≠ _; rw [add_block]; exact hn103_0) | exact hn103_0) (.int .u64 ((rd_T46 l0 x7_1).f0))).trans hx103_1; replace hx103_0 := (cell_far (p := ⟨gb102, 1, none⟩) (by first | (rw [add_block]; exact hn103_1) | (show (Addr.add _ _).block ≠ _; rw [add_block]; exact hn103_1) | exact hn103_1) (.string ((rd_T46 l0 x7_1).f1))).trans hx103_0; replace hx103_1 := (cell_far (p := ⟨gb102, 1, none⟩) (by first | (rw [add_block]; exact hn103_1) | (show (Addr.add _ _).block ≠ _; rw [add_block]; exact hn103_1) | exact hn103_1) (.string ((rd_T46 l0 x7_1).f1))).trans hx103_1; (try have hy103_0 := fun (n_ : Nat) => (show ((((w15.drewN n_).setCell ⟨gb102, 0, none⟩ (.int .u64 ((rd_T46 l0 x7_1).f0))).setCell ⟨gb102, 1, none⟩ (.string ((rd_T46 l0 x7_1).f1)))).cell? _ = some _ from hx103_0)); (try have hy103_1 := fun (n_ : Nat) => (show ((((w15.drewN n_).setCell ⟨gb102, 0, none⟩ (.int .u64 ((rd_T46 l0 x7_1).f0))).setCell ⟨gb102, 1, none⟩ (.string ((rd_T46 l0 x7_1).f1)))).cell? _ = some _ from hx103_1)); clear hn103_0; clear hn103_1; replace p103 := eq_true p103; replace q103 := eq_true q103)))
           go_roundg k1
           case measure => have := HK1.out; omega
           case rel => exact ⟨(wrap64 (x7_1 + 1)), (by first | rfl | (simp; done) | (simp [*]; done)), H', ⟨by have := HK1.out; omega⟩, ⟨by repeat (first | (with_reducible first | exact HB.out | apply below_alloc | apply pw_below_drewN | apply below_drew1 | refine below_set ?_ GE102.out) | exact HB.out)⟩⟩
         ·rw [if_neg c11] at H
          exact absurd H (by simp)
        ·rw [if_neg c10] at H
         exact absurd H (by simp)
       ·rw [if_neg c8] at H
        have c8b0 : decide (0 < x7_1) = false := decide_eq_false c8
        clear c8
        have H' := Aside0.mk H
        clear H
        have p101 : 0 ≤ (x7_1 : Int) := of_decide_eq_true (by first | (with_reducible assumption) | assumption)
        have q101 : x7_1 < (l0.length : Int) := of_decide_eq_true (by first | (with_reducible assumption) | assumption)
        obtain ⟨ad101, e101, hx101_0, hx101_1⟩ := at_T46 HR0.out x7_1 p101 q101
        cases e101
        replace hx101_0 := (HB.out.cell (World.block_lt_of_cell? w _ hx101_0)).trans hx101_0
        replace hx101_1 := (HB.out.cell (World.block_lt_of_cell? w _ hx101_1)).trans hx101_1
        replace p101 := eq_true p101
        replace q101 := eq_true q101
        go_wp2_with (first | ((with_reducible refine gate_dst (N := 4) rfl ?_); refine box_event ?hg (N := 4) ?hd (cs := #[.int .u64 0, .string (⟨#[]⟩ : ByteArray)]) (t := 46) ?hr ?_; (case hd => rfl); (case hg => rfl); (case hr => first | (go_simp; done) | (go_simp; rfl)); intro gb102 hg w17 hbox hb; have n0_ := Aside0.mk (below_step (by repeat (first | (with_reducible first | exact HB.out | apply below_alloc | apply pw_below_drewN | apply below_drew1) | exact HB.out)) hb); have n1_ := Aside0.mk (hbox); have n2_ := Aside0.mk ((by rw [hg]; exact (below_size (by repeat (first | (with_reducible first | exact HB.out | apply below_alloc | apply pw_below_drewN | apply below_drew1) | exact HB.out))) : w.heap.size ≤ gb102)); have n3_ := Aside0.mk ((by rw [hg]; exact (below_size (by repeat (first | (with_reducible first | exact HB.out | apply below_alloc | apply pw_below_drewN | apply below_drew1) | exact HB.out))) : w.heap.size ≤ gb102)); clear HB; have HB := n0_; have BK102 := n1_; have GW102 := n2_; have GE102 := n3_; clear n0_ n1_ n2_ n3_; clear hb hbox hg; have hcz18_0 : w17.cell? ⟨gb102, 0, none⟩ = some (.int .u64 0) := (blk_cell BK102.out 0).trans rfl; have hcz18_1 : w17.cell? ⟨gb102, 1, none⟩ = some (.string (⟨#[]⟩ : ByteArray)) := (blk_cell BK102.out 1).trans rfl; have hfz18_0 := blk_frozen BK102.out 0; have hfz18_1 := blk_frozen BK102.out 1))
        repeat (go_quiet (first | ((with_reducible refine gate_dst (N := 4) rfl ?_); refine box_event ?hg (N := 4) ?hd (cs := #[.int .u64 0, .string (⟨#[]⟩ : ByteArray)]) (t := 46) ?hr ?_; (case hd => rfl); (case hg => rfl); (case hr => first | (go_simp; done) | (go_simp; rfl)); intro gb102 hg w17 hbox hb; have n0_ := Aside0.mk (below_step (by repeat (first | (with_reducible first | exact HB.out | apply below_alloc | apply pw_below_drewN | apply below_drew1) | exact HB.out)) hb); have n1_ := Aside0.mk (hbox); have n2_ := Aside0.mk ((by rw [hg]; exact (below_size (by repeat (first | (with_reducible first | exact HB.out | apply below_alloc | apply pw_below_drewN | apply below_drew1) | exact HB.out))) : w.heap.size ≤ gb102)); have n3_ := Aside0.mk ((by rw [hg]; exact (below_size (by repeat (first | (with_reducible first | exact HB.out | apply below_alloc | apply pw_below_drewN | apply below_drew1) | exact HB.out))) : w.heap.size ≤ gb102)); clear HB; have HB := n0_; have BK102 := n1_; have GW102 := n2_; have GE102 := n3_; clear n0_ n1_ n2_ n3_; clear hb hbox hg; have hcz18_0 : w17.cell? ⟨gb102, 0, none⟩ = some (.int .u64 0) := (blk_cell BK102.out 0).trans rfl; have hcz18_1 : w17.cell? ⟨gb102, 1, none⟩ = some (.string (⟨#[]⟩ : ByteArray)) := (blk_cell BK102.out 1).trans rfl; have hfz18_0 := blk_frozen BK102.out 0; have hfz18_1 := blk_frozen BK102.out 1)); try go_wp2_with (first | ((with_reducible refine gate_dst (N := 4) rfl ?_); refine box_event ?hg (N := 4) ?hd (cs := #[.int .u64 0, .string (⟨#[]⟩ : ByteArray)]) (t := 46) ?hr ?_; (case hd => rfl); (case hg => rfl); (case hr => first | (go_simp; done) | (go_simp; rfl)); intro gb102 hg w17 hbox hb; have n0_ := Aside0.mk (below_step (by repeat (first | (with_reducible first | exact HB.out | apply below_alloc | apply pw_below_drewN | apply below_drew1) | exact HB.out)) hb); have n1_ := Aside0.mk (hbox); have n2_ := Aside0.mk ((by rw [hg]; exact (below_size (by repeat (first | (with_reducible first | exact HB.out | apply below_alloc | apply pw_below_drewN | apply below_drew1) | exact HB.out))) : w.heap.size ≤ gb102)); have n3_ := Aside0.mk ((by rw [hg]; exact (below_size (by repeat (first | (with_reducible first | exact HB.out | apply below_alloc | apply pw_below_drewN | apply below_drew1) | exact HB.out))) : w.heap.size ≤ gb102)); clear HB; have HB := n0_; have BK102 := n1_; have GW102 := n2_; have GE102 := n3_; clear n0_ n1_ n2_ n3_; clear hb hbox hg; have hcz18_0 : w17.cell? ⟨gb102, 0, none⟩ = some (.int .u64 0) := (blk_cell BK102.out 0).trans rfl; have hcz18_1 : w17.cell? ⟨gb102, 1, none⟩ = some (.string (⟨#[]⟩ : ByteArray)) := (blk_cell BK102.out 1).trans rfl; have hfz18_0 := blk_frozen BK102.out 0; have hfz18_1 := blk_frozen BK102.out 1)))
        go_roundg k1
        case measure => have := HK1.out; omega
        case rel => exact ⟨(wrap64 (x7_1 + 1)), (by first | rfl | (simp; done) | (simp [*]; done)), H', ⟨by have := HK1.out; omega⟩, ⟨by repeat (first | (with_reducible first | exact HB.out | apply below_alloc | apply pw_below_drewN | apply below_drew1 | refine below_set ?_ GE102.out) | exact HB.out)⟩⟩
     ·rw [if_neg c4] at H
      exact absurd H (by simp)
    ·rw [if_neg c3] at H
     exact absurd H (by simp)
   ·rw [if_neg c2] at H
    have c2b0 : decide (x7_1 < (l0.length : Int)) = false := decide_eq_false c2
    clear c2
    obtain rfl := Option.some.inj H
    go_wp2
    repeat (go_quiet (fail); try go_wp2)
    go_ret
    exact ⟨by first | rfl | (simp [errW_none, errW_some] <;> rfl) | (simp [*, errW_none, errW_some] <;> rfl), by repeat (first | (with_reducible first | exact HB.out | apply below_alloc | apply pw_below_drewN | apply below_drew1) | exact HB.out)⟩
/-! ### skip_Find: function 24 -/
end Go.Proofs.YtolbhliepkcihaaDoor.QSF
end
section
namespace Go.Proofs.YtolbhliepkcihaaDoor.Skip
open Go.RowKit Go.Proofs.YtolbhliepkcihaaDoor.Kinds Go.Proofs.YtolbhliepkcihaaDoor.QSF Go.Proofs.YtolbhliepkcihaaDoorW.PrintWords Go.Proofs.YtolbhliepkcihaaDoorW.PrintLast Go.Proofs.YtolbhliepkcihaaDoorW.PrintMore Go.Proofs.YtolbhliepkcihaaDoor.Sha Go.Proofs.YtolbhliepkcihaaDoor.Mac Go.Proofs.YtolbhliepkcihaaDoor.Codec Go.Proofs.YtolbhliepkcihaaDoor.Tower
end Go.Proofs.YtolbhliepkcihaaDoor.Skip
end
section
namespace Go.Proofs.YtolbhliepkcihaaDoor.Skip
open Go.RowKit Go.Proofs.YtolbhliepkcihaaDoor.Kinds Go.Proofs.YtolbhliepkcihaaDoor.QSF Go.Proofs.YtolbhliepkcihaaDoorW.PrintWords Go.Proofs.YtolbhliepkcihaaDoorW.PrintLast Go.Proofs.YtolbhliepkcihaaDoorW.PrintMore Go.Proofs.YtolbhliepkcihaaDoor.Sha Go.Proofs.YtolbhliepkcihaaDoor.Mac Go.Proofs.YtolbhliepkcihaaDoor.Codec Go.Proofs.YtolbhliepkcihaaDoor.Tower
/-! ### items as cells -/
/-! ### skip.Drop -/
end Go.Proofs.YtolbhliepkcihaaDoor.Skip
end
section
namespace Go.Proofs.YtolbhliepkcihaaDoor.Skip
open Go.RowKit Go.Proofs.YtolbhliepkcihaaDoor.Kinds Go.Proofs.YtolbhliepkcihaaDoor.QSF Go.Proofs.YtolbhliepkcihaaDoorW.PrintWords Go.Proofs.YtolbhliepkcihaaDoorW.PrintLast Go.Proofs.YtolbhliepkcihaaDoorW.PrintMore Go.Proofs.YtolbhliepkcihaaDoor.Sha Go.Proofs.YtolbhliepkcihaaDoor.Mac Go.Proofs.YtolbhliepkcihaaDoor.Codec Go.Proofs.YtolbhliepkcihaaDoor.Tower
end Go.Proofs.YtolbhliepkcihaaDoor.Skip
end
section
namespace Go.Proofs.YtolbhliepkcihaaDoor.Skip
set_option linter.unusedSimpArgs false
set_option linter.unusedVariables false
open Go.RowKit Go.Proofs.YtolbhliepkcihaaDoor.Kinds Go.Proofs.YtolbhliepkcihaaDoor.QSF Go.Proofs.YtolbhliepkcihaaDoorW.PrintWords Go.Proofs.YtolbhliepkcihaaDoorW.PrintLast Go.Proofs.YtolbhliepkcihaaDoorW.PrintMore Go.Proofs.YtolbhliepkcihaaDoor.Sha Go.Proofs.YtolbhliepkcihaaDoor.Mac Go.Proofs.YtolbhliepkcihaaDoor.Codec Go.Proofs.YtolbhliepkcihaaDoor.Tower
end Go.Proofs.YtolbhliepkcihaaDoor.Skip
end
section
namespace Go.Proofs.YtolbhliepkcihaaDoor.Skip
set_option linter.unusedSimpArgs false
set_option linter.unusedVariables false
open Go.RowKit Go.Proofs.YtolbhliepkcihaaDoor.Kinds Go.Proofs.YtolbhliepkcihaaDoor.QSF Go.Proofs.YtolbhliepkcihaaDoorW.PrintWords Go.Proofs.YtolbhliepkcihaaDoorW.PrintLast Go.Proofs.YtolbhliepkcihaaDoorW.PrintMore Go.Proofs.YtolbhliepkcihaaDoor.Sha Go.Proofs.YtolbhliepkcihaaDoor.Mac Go.Proofs.YtolbhliepkcihaaDoor.Codec Go.Proofs.YtolbhliepkcihaaDoor.Tower
end Go.Proofs.YtolbhliepkcihaaDoor.Skip
end
section
namespace Go.Proofs.YtolbhliepkcihaaDoor.QSF
open Go.RowKit Go.Proofs.YtolbhliepkcihaaDoor.Kinds Go.Proofs.YtolbhliepkcihaaDoorW.PrintWords Go.Proofs.YtolbhliepkcihaaDoorW.PrintLast Go.Proofs.YtolbhliepkcihaaDoorW.PrintMore
attribute [local go_sem] max2_int min2_int max_two min_two max_three min_three max_four min_four   -- for this text's walks alone
set_option linter.unusedVariables false
set_option linter.unusedSimpArgs false
theorem eqA48 (d : Nat) (w : World) (x0 y0 : Int) (x1 y1 : Int) :
  (Op.equalIn (d + 2) 48 (.agg #[.int .i64 x0, .int .i64 x1]) (.agg #[.int .i64 y0, .int .i64 y1])).run Tryd.prog w = .ok (x0 == y0 && (x1 == y1)) w := by
 refine eqA_of Tryd.underlying48 (by kernel_rfl) ?_
 refine eqf_cons (by rfl) (by go_simp; rfl) (by go_simp; rfl) (by go_simp) ?_
 exact eqf_last (by rfl) (by go_simp; rfl) (by go_simp; rfl) (by go_simp)
end Go.Proofs.YtolbhliepkcihaaDoor.QSF
end
section
namespace Go.Proofs.YtolbhliepkcihaaDoor.QSF
open Go.RowKit Go.Proofs.YtolbhliepkcihaaDoor.Kinds Go.Proofs.YtolbhliepkcihaaDoorW.PrintWords Go.Proofs.YtolbhliepkcihaaDoorW.PrintLast Go.Proofs.YtolbhliepkcihaaDoorW.PrintMore
attribute [local go_sem] max2_int min2_int max_two min_two max_three min_three max_four min_four   -- for this text's walks alone
set_option linter.unusedVariables false
set_option linter.unusedSimpArgs false
attribute [local go_sem high] eqA48
/-! ### saltusref16_Right: function 25 -/
mutual
def saltusref16_Right.l0 : Nat → List (S46) → List (S46) → Int → Int → Option (Bool)
 | 0, _, _, _, _ => none
 | k + 1, x0, x7, x8, x9 => if x9 < x8 then (if 0 ≤ x9 then (if x9 < (x7.length : Int) then (if (((rd_T46 x7 x9).f1).size : Int) > 64 then (some false) else (if x9 ≤ (x0.length : Int) then ((some (x0.take (x9 : Int).toNat : List (S46))).bind fun y119 => (saltusref16_Right.l1 k x0 x7 x8 x9 y119 (y119.length : Int) 0 ((rd_T46 x7 x9).f0) ((rd_T46 x7 x9).f1))) else (none))) else (none)) else (none)) else (some (decide ((x0.length : Int) ≤ 64)))
def saltusref16_Right.l1 : Nat → List (S46) → List (S46) → Int → Int → List (S46) → Int → Int → Int → ByteArray → Option (Bool)
 | 0, _, _, _, _, _, _, _, _, _ => none
 | k + 1, x0, x7, x8, x9, x20, x21, x22, x119000, x119001 => if x22 < x21 then (if 0 ≤ x22 then (if x22 < (x20.length : Int) then (if ((rd_T46 x20 x22).f0) ≥ x119000 then (some false) else (saltusref16_Right.l1 k x0 x7 x8 x9 x20 x21 (wrap64 (x22 + 1)) x119000 x119001)) else (none)) else (none)) else (saltusref16_Right.l0 k x0 x7 x8 (wrap64 (x9 + 1)))
end
def saltusref16_Right.f (k : Nat) (l0 : List (S46)) : Option (Bool) := saltusref16_Right.l0 k l0 l0 (l0.length : Int) 0
theorem saltusref16_Right.mono_l : ∀ k, (∀ y0 y1 y2 y3, LeO (saltusref16_Right.l0 k y0 y1 y2 y3) (saltusref16_Right.l0 (k + 1) y0 y1 y2 y3)) ∧ (∀ y0 y1 y2 y3 y4 y5 y6 y7 y8, LeO (saltusref16_Right.l1 k y0 y1 y2 y3 y4 y5 y6 y7 y8) (saltusref16_Right.l1 (k + 1) y0 y1 y2 y3 y4 y5 y6 y7 y8))
 | 0 => ⟨fun _ _ _ _ r h => by simp [saltusref16_Right.l0] at h, fun _ _ _ _ _ _ _ _ _ r h => by simp [saltusref16_Right.l1] at h⟩
 | k + 1 => by
  obtain ⟨ih0, ih1⟩ := saltusref16_Right.mono_l k
  refine ⟨?_, ?_⟩
  ·intro y0 y1 y2 y3
   unfold saltusref16_Right.l0
   repeat' first
   | (with_reducible exact ih0 _ _ _ _)
   | (with_reducible exact ih1 _ _ _ _ _ _ _ _ _)
   | (with_reducible exact LeO.refl _)
   | (with_reducible exact LeO.none _)
   | (with_reducible refine LeO.ite ?_ ?_)
   | (with_reducible refine LeO.bind ?_ (fun _ => ?_))
   | exact ih0 _ _ _ _
   | exact ih1 _ _ _ _ _ _ _ _ _
   | exact LeO.none _
   | refine LeO.ite ?_ ?_
   | refine LeO.bind ?_ (fun _ => ?_)
  ·intro y0 y1 y2 y3 y4 y5 y6 y7 y8
   unfold saltusref16_Right.l1
   repeat' first
   | (with_reducible exact ih0 _ _ _ _)
   | (with_reducible exact ih1 _ _ _ _ _ _ _ _ _)
   | (with_reducible exact LeO.refl _)
   | (with_reducible exact LeO.none _)
   | (with_reducible refine LeO.ite ?_ ?_)
   | (with_reducible refine LeO.bind ?_ (fun _ => ?_))
   | exact ih0 _ _ _ _
   | exact ih1 _ _ _ _ _ _ _ _ _
   | exact LeO.none _
   | refine LeO.ite ?_ ?_
   | refine LeO.bind ?_ (fun _ => ?_)
theorem saltusref16_Right.mono : ∀ a0 k, LeO (saltusref16_Right.f k a0) (saltusref16_Right.f (k + 1) a0) := by
 intro a0 k
 obtain ⟨ih0, ih1⟩ := saltusref16_Right.mono_l k
 unfold saltusref16_Right.f
 repeat' first
   | (with_reducible exact ih0 _ _ _ _)
   | (with_reducible exact ih1 _ _ _ _ _ _ _ _ _)
   | (with_reducible exact LeO.refl _)
   | (with_reducible exact LeO.none _)
   | (with_reducible refine LeO.ite ?_ ?_)
   | (with_reducible refine LeO.bind ?_ (fun _ => ?_))
   | exact ih0 _ _ _ _
   | exact ih1 _ _ _ _ _ _ _ _ _
   | exact LeO.none _
   | refine LeO.ite ?_ ?_
   | refine LeO.bind ?_ (fun _ => ?_)
set_option maxHeartbeats 8000000 in
set_option maxRecDepth 100000 in
theorem saltusref16_Right.calls (k : Nat) (A0 : Option Addr) (c0 : Nat) (l0 : List (S46)) (r : Bool) (w : World) (hr0 : Kd.C k46 w A0 l0.length l0) (hc0 : l0.length ≤ c0) (h : saltusref16_Right.f k l0 = some r) :
  Calls Tryd.prog 25 #[.slice A0 l0.length c0] w fun e w' => e = .returned (.bool r) ∧ Below w.heap.size w w' := by
 have hu46 := Tryd.underlying46
 have HR0 := Aside0.mk hr0
 have HC0 := Aside0.mk hc0
 clear hr0 hc0
 have HB := Aside0.mk (Below.refl w.heap.size w)
 have H : (saltusref16_Right.l0 k l0 l0 (l0.length : Int) 0) = some r := h
 clear h
 have H' := Aside0.mk H
 clear H
 go_enter Tryd.func25, Tryd.ntmps25
 go_wp2
 go_loopg [9] k (fun kq v9 w' => ∃ (x9_1 : Int), v9 = .int .i64 x9_1 ∧ Aside0 (saltusref16_Right.l0 kq l0 l0 (l0.length : Int) x9_1 = some r) ∧ Aside0 (kq ≤ k) ∧ Aside0 (Below w.heap.size w w'))
 case atStart => exact ⟨(0), (by first | rfl | (simp; done) | (simp [*]; done)), H', ⟨Nat.le_refl _⟩, ⟨by repeat (first | (with_reducible first | exact HB.out | apply below_alloc | apply pw_below_drewN | apply below_drew1) | exact HB.out)⟩⟩
 case round =>
  clear H'
  obtain ⟨x9_1, rfl, HA, HK1, HB⟩ := hrel
  cases gk with
  | zero => exact absurd HA.out (by simp [saltusref16_Right.l0])
  | succ k1 =>
   have H := HA.out
   clear HA
   simp only [saltusref16_Right.l0] at H
   by_cases c2 : x9_1 < (l0.length : Int)
   ·rw [if_pos c2] at H
    have c2b0 : decide (x9_1 < (l0.length : Int)) = true := decide_eq_true c2
    clear c2
    by_cases c3 : 0 ≤ x9_1
    ·rw [if_pos c3] at H
     have c3b0 : decide (0 ≤ x9_1) = true := decide_eq_true c3
     clear c3
     by_cases c4 : x9_1 < (l0.length : Int)
     ·rw [if_pos c4] at H
      have c4b0 : decide (x9_1 < (l0.length : Int)) = true := decide_eq_true c4
      clear c4
      by_cases c5 : (((rd_T46 l0 x9_1).f1).size : Int) > 64
      ·rw [if_pos c5] at H
       have c5b0 : decide (64 < (((rd_T46 l0 x9_1).f1).size : Int)) = true := decide_eq_true c5
       have c5b1 : decide (64 < ((rd_T46 l0 x9_1).f1).size) = true := decide_eq_true (by omega)
       clear c5
       obtain rfl := Option.some.inj H
       have p117 : 0 ≤ (x9_1 : Int) := of_decide_eq_true (by first | (with_reducible assumption) | assumption)
       have q117 : x9_1 < (l0.length : Int) := of_decide_eq_true (by first | (with_reducible assumption) | assumption)
       obtain ⟨ad117, e117, hx117_0, hx117_1⟩ := at_T46 HR0.out x9_1 p117 q117
       cases e117
       replace hx117_0 := (HB.out.cell (World.block_lt_of_cell? w _ hx117_0)).trans hx117_0
       replace hx117_1 := (HB.out.cell (World.block_lt_of_cell? w _ hx117_1)).trans hx117_1
       replace p117 := eq_true p117
       replace q117 := eq_true q117
       go_wp2_with (first | ((with_reducible refine gate_dst (N := 4) rfl ?_); refine box_event ?hg (N := 4) ?hd (cs := #[.int .u64 0, .string (⟨#[]⟩ : ByteArray)]) (t := 46) ?hr ?_; (case hd => rfl); (case hg => rfl); (case hr => first | (go_simp; done) | (go_simp; rfl)); intro gb118 hg w6 hbox hb; have n0_ := Aside0.mk (below_step (by repeat (first | (with_reducible first | exact HB.out | apply below_alloc | apply pw_below_drewN | apply below_drew1) | exact HB.out)) hb); have n1_ := Aside0.mk (hbox); have n2_ := Aside0.mk ((by rw [hg]; exact (below_size (by repeat (first | (with_reducible first | exact HB.out | apply below_alloc | apply pw_below_drewN | apply below_drew1) | exact HB.out))) : w.heap.size ≤ gb118)); have n3_ := Aside0.mk ((by rw [hg]; exact (below_size (by repeat (first | (with_reducible first | exact HB.out | apply below_alloc | apply pw_below_drewN | apply below_drew1) | exact HB.out))) : w.heap.size ≤ gb118)); clear HB; have HB := n0_; have BK118 := n1_; have GW118 := n2_; have GE118 := n3_; clear n0_ n1_ n2_ n3_; clear hb hbox hg; have hcz7_0 : w6.cell? ⟨gb118, 0, none⟩ = some (.int .u64 0) := (blk_cell BK118.out 0).trans rfl; have hcz7_1 : w6.cell? ⟨gb118, 1, none⟩ = some (.string (⟨#[]⟩ : ByteArray)) := (blk_cell BK118.out 1).trans rfl; have hfz7_0 := blk_frozen BK118.out 0; have hfz7_1 := blk_frozen BK118.out 1))
       go_ret
       exact ⟨by first | rfl | (simp [errW_none, errW_some] <;> rfl) | (simp [*, errW_none, errW_some] <;> rfl), by repeat (first | (with_reducible first | exact HB.out | apply below_alloc | apply pw_below_drewN | apply below_drew1 | refine below_set ?_ GE118.out) | exact HB.out)⟩
      ·rw [if_neg c5] at H
       have c5b0 : decide (64 < (((rd_T46 l0 x9_1).f1).size : Int)) = false := decide_eq_false c5
       have c5b1 : decide (64 < ((rd_T46 l0 x9_1).f1).size) = false := decide_eq_false (by omega)
       clear c5
       have c8b0 := eq_true (of_decide_eq_true (by first | (with_reducible assumption) | assumption) : 0 ≤ x9_1)
       by_cases c9 : x9_1 ≤ (l0.length : Int)
       ·rw [if_pos c9] at H
        have c9b0 := eq_true c9
        have c9b1 : decide (x9_1 ≤ (l0.length : Int)) = true := decide_eq_true c9
        clear c9
        obtain ⟨y119, hy119⟩ : ∃ y_ : List (S46), y_ = (l0.take (x9_1 : Int).toNat) := ⟨_, rfl⟩
        replace H : (saltusref16_Right.l1 k1 l0 l0 (l0.length : Int) x9_1 y119 (y119.length : Int) 0 ((rd_T46 l0 x9_1).f0) ((rd_T46 l0 x9_1).f1)) = some r := by first | (rw [hy119]; with_reducible exact H) | (have H2_ := (Option.bind_some _ _).symm.trans H; rw [hy119]; with_reducible exact H2_) | (have H2_ := (Option.bind_some _ _).symm.trans H; with_reducible exact H2_) | with_reducible exact H | (rw [hy119]; exact H) | exact H
        have Ny119 := Aside0.mk hy119
        clear hy119
        have H' := Aside0.mk H
        clear H
        have p117 : 0 ≤ (x9_1 : Int) := of_decide_eq_true (by first | (with_reducible assumption) | assumption)
        have q117 : x9_1 < (l0.length : Int) := of_decide_eq_true (by first | (with_reducible assumption) | assumption)
        obtain ⟨ad117, e117, hx117_0, hx117_1⟩ := at_T46 HR0.out x9_1 p117 q117
        cases e117
        replace hx117_0 := (HB.out.cell (World.block_lt_of_cell? w _ hx117_0)).trans hx117_0
        replace hx117_1 := (HB.out.cell (World.block_lt_of_cell? w _ hx117_1)).trans hx117_1
        replace p117 := eq_true p117
        replace q117 := eq_true q117
        go_wp2_with (first | ((with_reducible refine gate_dst (N := 4) rfl ?_); refine box_event ?hg (N := 4) ?hd (cs := #[.int .u64 0, .string (⟨#[]⟩ : ByteArray)]) (t := 46) ?hr ?_; (case hd => rfl); (case hg => rfl); (case hr => first | (go_simp; done) | (go_simp; rfl)); intro gb118 hg w10 hbox hb; have n0_ := Aside0.mk (below_step (by repeat (first | (with_reducible first | exact HB.out | apply below_alloc | apply pw_below_drewN | apply below_drew1) | exact HB.out)) hb); have n1_ := Aside0.mk (hbox); have n2_ := Aside0.mk ((by rw [hg]; exact (below_size (by repeat (first | (with_reducible first | exact HB.out | apply below_alloc | apply pw_below_drewN | apply below_drew1) | exact HB.out))) : w.heap.size ≤ gb118)); have n3_ := Aside0.mk ((by rw [hg]; exact (below_size (by repeat (first | (with_reducible first | exact HB.out | apply below_alloc | apply pw_below_drewN | apply below_drew1) | exact HB.out))) : w.heap.size ≤ gb118)); clear HB; have HB := n0_; have BK118 := n1_; have GW118 := n2_; have GE118 := n3_; clear n0_ n1_ n2_ n3_; clear hb hbox hg; have hcz11_0 : w10.cell? ⟨gb118, 0, none⟩ = some (.int .u64 0) := (blk_cell BK118.out 0).trans rfl; have hcz11_1 : w10.cell? ⟨gb118, 1, none⟩ = some (.string (⟨#[]⟩ : ByteArray)) := (blk_cell BK118.out 1).trans rfl; have hfz11_0 := blk_frozen BK118.out 0; have hfz11_1 := blk_frozen BK118.out 1) | ((with_reducible refine gate_store (t := 46) (p := 4) rfl ?_); refine store_event (t := 46) (p := 4) (v := ?vo_w12) (w1 := ((w10.setCell ⟨gb118, 0, none⟩ (.int .u64 ((rd_T46 l0 x9_1).f0))).setCell ⟨gb118, 1, none⟩ (.string ((rd_T46 l0 x9_1).f1)))) ?hg ?ho ?hn ?hr ?_; (case ho => rfl); (case hg => rfl); (case hn => rfl); (case hr => first | (go_simp; done) | (go_simp; rfl)); intro w12 hw; have n0_ : Aside0 (w12.heap[gb118]? = some (.cells #[.int .u64 ((rd_T46 l0 x9_1).f0), .string ((rd_T46 l0 x9_1).f1)] 46 (0, 0))) := ⟨(by rw [hw]; exact (by (with_reducible repeat (first | refine blk_drewN ?_ _ | refine blk_drew ?_ | refine blk_alloc ?_ _)); refine blk_put (cs := #[.int .u64 ((rd_T46 l0 x9_1).f0), .string (⟨#[]⟩ : ByteArray)]) ?_ 1 _ rfl; (with_reducible repeat (first | refine blk_drewN ?_ _ | refine blk_drew ?_ | refine blk_alloc ?_ _)); refine blk_put (cs := #[.int .u64 0, .string (⟨#[]⟩ : ByteArray)]) ?_ 0 _ rfl; (with_reducible repeat (first | refine blk_drewN ?_ _ | refine blk_drew ?_ | refine blk_alloc ?_ _)); exact BK118.out))⟩; have n1_ : Aside0 (Below w.heap.size w w12) := ⟨(by rw [hw]; exact (by repeat (first | (with_reducible first | exact HB.out | apply below_alloc | apply pw_below_drewN | apply below_drew1 | refine below_set ?_ GE118.out) | exact HB.out)))⟩; clear hw; clear BK118; clear HB; have BK118 := n0_; have HB := n1_; clear n0_ n1_; have hcz13_0 : w12.cell? ⟨gb118, 0, none⟩ = some (.int .u64 ((rd_T46 l0 x9_1).f0)) := (blk_cell BK118.out 0).trans rfl; have hcz13_1 : w12.cell? ⟨gb118, 1, none⟩ = some (.string ((rd_T46 l0 x9_1).f1)) := (blk_cell BK118.out 1).trans rfl; have hfz13_0 := blk_frozen BK118.out 0; have hfz13_1 := blk_frozen BK118.out 1; have q14 : (x9_1 : Int) ≤ ((l0.length : Int) : Int) := of_decide_eq_true (by first | (with_reducible assumption) | assumption); obtain ⟨i014, hi014, _, hsz14, _⟩ := info_parts info46; have hroom14 : l0.length ≤ c0 := HC0.out; have hC14 : Kd.C k46 _ (some ad117) l0.length l0 := HR0.out; have hcut14 := cut_to (P := Tryd.prog) 36 46 .i64 Tryd.underlying36 hi014 (some ad117) l0.length c0 x9_1 (of_decide_eq_true (by first | (with_reducible assumption) | assumption)) q14 hroom14; have hr14 := Kd.C_take (m := (x9_1 : Int).toNat) hC14 (by omega); have hy14 : y119.length = (x9_1 : Int).toNat := (by rw [Ny119.out, List.length_take]; omega); rw [← Ny119.out] at hr14; rw [← hy14] at hcut14; have HR122 := Aside0.mk hr14; have HC122 := Aside0.mk (show y119.length ≤ c0 from by omega); clear hr14 hC14 hroom14 hi014 hsz14; have KY14 := Aside0.mk hy14; clear hy14; replace q14 := eq_true q14))
        go_loopg [22] k1 (fun kq v22 w' => ∃ (x22_2 : Int), v22 = .int .i64 x22_2 ∧ Aside0 (saltusref16_Right.l1 kq l0 l0 (l0.length : Int) x9_1 y119 (y119.length : Int) x22_2 ((rd_T46 l0 x9_1).f0) ((rd_T46 l0 x9_1).f1) = some r) ∧ Aside0 (kq ≤ k1) ∧ Aside0 (w'.heap[gb118]? = some (.cells #[.int .u64 ((rd_T46 l0 x9_1).f0), .string ((rd_T46 l0 x9_1).f1)] 46 (0, 0))) ∧ Aside0 (Below w.heap.size w w'))
        case atStart => exact ⟨(0), (by first | rfl | (simp; done) | (simp [*]; done)), H', ⟨Nat.le_refl _⟩, ⟨by (with_reducible repeat (first | refine blk_drewN ?_ _ | refine blk_drew ?_ | refine blk_alloc ?_ _)); exact BK118.out⟩, ⟨by repeat (first | (with_reducible first | exact HB.out | apply below_alloc | apply pw_below_drewN | apply below_drew1 | refine below_set ?_ GE118.out) | exact HB.out)⟩⟩
        case round =>
         clear H'
         try clear p1
         try clear q1
         try clear hx1
         try clear c2
         try clear c2b0
         try clear p2
         try clear c3
         try clear c3b0
         try clear c4
         try clear c4b0
         try clear c5
         try clear c5b0
         try clear c5b1
         try clear c8
         try clear c8b0
         try clear c9
         try clear c9b0
         try clear c9b1
         try clear p11
         try clear q11
         try clear hx11
         try clear q14
         try clear hcz11_0
         try clear hcz11_1
         try clear hcz13_0
         try clear hcz13_1
         try clear hcz7_0
         try clear hcz7_1
         try clear hfz11_0
         try clear hfz11_1
         try clear hfz13_0
         try clear hfz13_1
         try clear hfz7_0
         try clear hfz7_1
         try clear hx117_0
         try clear hx117_1
         try clear p117
         try clear q117
         try clear q14
         obtain ⟨x22_2, rfl, HA, HK2, BK118, HB⟩ := hrel
         cases gk with
         | zero => exact absurd HA.out (by simp [saltusref16_Right.l1])
         | succ k2 =>
          have H := HA.out
          clear HA
          simp only [saltusref16_Right.l1] at H
          by_cases c15 : x22_2 < (y119.length : Int)
          ·rw [if_pos c15] at H
           have c15b0 : decide (x22_2 < (y119.length : Int)) = true := decide_eq_true c15
           clear c15
           by_cases c16 : 0 ≤ x22_2
           ·rw [if_pos c16] at H
            have c16b0 : decide (0 ≤ x22_2) = true := decide_eq_true c16
            clear c16
            by_cases c17 : x22_2 < (y119.length : Int)
            ·rw [if_pos c17] at H
             have c17b0 : decide (x22_2 < (y119.length : Int)) = true := decide_eq_true c17
             clear c17
             by_cases c18 : ((rd_T46 y119 x22_2).f0) ≥ ((rd_T46 l0 x9_1).f0)
             ·rw [if_pos c18] at H
              have c18b0 : decide (((rd_T46 l0 x9_1).f0) ≤ ((rd_T46 y119 x22_2).f0)) = true := decide_eq_true c18
              clear c18
              obtain rfl := Option.some.inj H
              have p123 : 0 ≤ (x22_2 : Int) := of_decide_eq_true (by first | (with_reducible assumption) | assumption)
              have q123 : x22_2 < (y119.length : Int) := of_decide_eq_true (by first | (with_reducible assumption) | assumption)
              obtain ⟨ad123, e123, hx123_0, hx123_1⟩ := at_T46 HR122.out x22_2 p123 q123
              obtain rfl : ad117 = ad123 := (by injection e123)
              replace hx123_0 := (HB.out.cell (World.block_lt_of_cell? w _ hx123_0)).trans hx123_0
              replace hx123_1 := (HB.out.cell (World.block_lt_of_cell? w _ hx123_1)).trans hx123_1
              replace p123 := eq_true p123
              replace q123 := eq_true q123
              go_wp2_with (first | ((with_reducible refine gate_dst (N := 6) rfl ?_); refine box_event ?hg (N := 6) ?hd (cs := #[.int .u64 0, .string (⟨#[]⟩ : ByteArray)]) (t := 46) ?hr ?_; (case hd => rfl); (case hg => rfl); (case hr => first | (go_simp; done) | (go_simp; rfl)); intro gb124 hg w19 hbox hb; have n0_ := Aside0.mk (blk_below (g := gb118) (o := .cells #[.int .u64 ((rd_T46 l0 x9_1).f0), .string ((rd_T46 l0 x9_1).f1)] 46 (0, 0)) (by (with_reducible repeat (first | refine blk_drewN ?_ _ | refine blk_drew ?_ | refine blk_alloc ?_ _)); exact BK118.out) hb); have n1_ := Aside0.mk (below_step (by repeat (first | (with_reducible first | exact HB.out | apply below_alloc | apply pw_below_drewN | apply below_drew1 | refine below_set ?_ GE118.out) | exact HB.out)) hb); have n2_ := Aside0.mk (hbox); have n3_ := Aside0.mk ((by rw [hg]; exact (below_size (by repeat (first | (with_reducible first | exact HB.out | apply below_alloc | apply pw_below_drewN | apply below_drew1 | refine below_set ?_ GE118.out) | exact HB.out))) : w.heap.size ≤ gb124)); have n4_ := Aside0.mk ((by rw [hg]; exact (below_size (by repeat (first | (with_reducible first | exact HB.out | apply below_alloc | apply pw_below_drewN | apply below_drew1 | refine below_set ?_ GE118.out) | exact HB.out))) : w.heap.size ≤ gb124)); have n5_ := Aside0.mk ((by rw [hg]; exact Nat.ne_of_lt (blk_lt (g := gb118) (o := .cells #[.int .u64 ((rd_T46 l0 x9_1).f0), .string ((rd_T46 l0 x9_1).f1)] 46 (0, 0)) (by (with_reducible repeat (first | refine blk_drewN ?_ _ | refine blk_drew ?_ | refine blk_alloc ?_ _)); exact BK118.out)) : gb118 ≠ gb124)); have n6_ := Aside0.mk ((by rw [hg]; exact Nat.ne_of_gt (blk_lt (g := gb118) (o := .cells #[.int .u64 ((rd_T46 l0 x9_1).f0), .string ((rd_T46 l0 x9_1).f1)] 46 (0, 0)) (by (with_reducible repeat (first | refine blk_drewN ?_ _ | refine blk_drew ?_ | refine blk_alloc ?_ _)); exact BK118.out)) : gb124 ≠ gb118)); clear BK118; clear HB; have BK118 := n0_; have HB := n1_; have BK124 := n2_; have GW124 := n3_; have GE124 := n4_; have NB118_124 := n5_; have NB124_118 := n6_; clear n0_ n1_ n2_ n3_ n4_ n5_ n6_; clear hb hbox hg; have hnb20 := NB124_118.out; have hnc20 := NB118_124.out; have hcz21_0 : w19.cell? ⟨gb124, 0, none⟩ = some (.int .u64 0) := (blk_cell BK124.out 0).trans rfl; have hcz21_1 : w19.cell? ⟨gb124, 1, none⟩ = some (.string (⟨#[]⟩ : ByteArray)) := (blk_cell BK124.out 1).trans rfl; have hfz21_0 := blk_frozen BK124.out 0; have hfz21_1 := blk_frozen BK124.out 1; have hcz22_0 : w19.cell? ⟨gb118, 0, none⟩ = some (.int .u64 ((rd_T46 l0 x9_1).f0)) := (blk_cell BK118.out 0).trans rfl; have hcz22_1 : w19.cell? ⟨gb118, 1, none⟩ = some (.string ((rd_T46 l0 x9_1).f1)) := (blk_cell BK118.out 1).trans rfl; have hfz22_0 := blk_frozen BK118.out 0; have hfz22_1 := blk_frozen BK118.out 1))
              go_ret
              exact ⟨by first | rfl | (simp [errW_none, errW_some] <;> rfl) | (simp [*, errW_none, errW_some] <;> rfl), by repeat (first | (with_reducible first | exact HB.out | apply below_alloc | apply pw_below_drewN | apply below_drew1 | refine below_set ?_ GE118.out | refine below_set ?_ GE124.out) | exact HB.out)⟩
             ·rw [if_neg c18] at H
              have c18b0 : decide (((rd_T46 l0 x9_1).f0) ≤ ((rd_T46 y119 x22_2).f0)) = false := decide_eq_false c18
              clear c18
              have H' := Aside0.mk H
              clear H
              have p123 : 0 ≤ (x22_2 : Int) := of_decide_eq_true (by first | (with_reducible assumption) | assumption)
              have q123 : x22_2 < (y119.length : Int) := of_decide_eq_true (by first | (with_reducible assumption) | assumption)
              obtain ⟨ad123, e123, hx123_0, hx123_1⟩ := at_T46 HR122.out x22_2 p123 q123
              obtain rfl : ad117 = ad123 := (by injection e123)
              replace hx123_0 := (HB.out.cell (World.block_lt_of_cell? w _ hx123_0)).trans hx123_0
              replace hx123_1 := (HB.out.cell (World.block_lt_of_cell? w _ hx123_1)).trans hx123_1
              replace p123 := eq_true p123
              replace q123 := eq_true q123
              go_wp2_with (first | ((with_reducible refine gate_dst (N := 6) rfl ?_); refine box_event ?hg (N := 6) ?hd (cs := #[.int .u64 0, .string (⟨#[]⟩ : ByteArray)]) (t := 46) ?hr ?_; (case hd => rfl); (case hg => rfl); (case hr => first | (go_simp; done) | (go_simp; rfl)); intro gb124 hg w23 hbox hb; have n0_ := Aside0.mk (blk_below (g := gb118) (o := .cells #[.int .u64 ((rd_T46 l0 x9_1).f0), .string ((rd_T46 l0 x9_1).f1)] 46 (0, 0)) (by (with_reducible repeat (first | refine blk_drewN ?_ _ | refine blk_drew ?_ | refine blk_alloc ?_ _)); exact BK118.out) hb); have n1_ := Aside0.mk (below_step (by repeat (first | (with_reducible first | exact HB.out | apply below_alloc | apply pw_below_drewN | apply below_drew1 | refine below_set ?_ GE118.out) | exact HB.out)) hb); have n2_ := Aside0.mk (hbox); have n3_ := Aside0.mk ((by rw [hg]; exact (below_size (by repeat (first | (with_reducible first | exact HB.out | apply below_alloc | apply pw_below_drewN | apply below_drew1 | refine below_set ?_ GE118.out) | exact HB.out))) : w.heap.size ≤ gb124)); have n4_ := Aside0.mk ((by rw [hg]; exact (below_size (by repeat (first | (with_reducible first | exact HB.out | apply below_alloc | apply pw_below_drewN | apply below_drew1 | refine below_set ?_ GE118.out) | exact HB.out))) : w.heap.size ≤ gb124)); have n5_ := Aside0.mk ((by rw [hg]; exact Nat.ne_of_lt (blk_lt (g := gb118) (o := .cells #[.int .u64 ((rd_T46 l0 x9_1).f0), .string ((rd_T46 l0 x9_1).f1)] 46 (0, 0)) (by (with_reducible repeat (first | refine blk_drewN ?_ _ | refine blk_drew ?_ | refine blk_alloc ?_ _)); exact BK118.out)) : gb118 ≠ gb124)); have n6_ := Aside0.mk ((by rw [hg]; exact Nat.ne_of_gt (blk_lt (g := gb118) (o := .cells #[.int .u64 ((rd_T46 l0 x9_1).f0), .string ((rd_T46 l0 x9_1).f1)] 46 (0, 0)) (by (with_reducible repeat (first | refine blk_drewN ?_ _ | refine blk_drew ?_ | refine blk_alloc ?_ _)); exact BK118.out)) : gb124 ≠ gb118)); clear BK118; clear HB; have BK118 := n0_; have HB := n1_; have BK124 := n2_; have GW124 := n3_; have GE124 := n4_; have NB118_124 := n5_; have NB124_118 := n6_; clear n0_ n1_ n2_ n3_ n4_ n5_ n6_; clear hb hbox hg; have hnb24 := NB124_118.out; have hnc24 := NB118_124.out; have hcz25_0 : w23.cell? ⟨gb124, 0, none⟩ = some (.int .u64 0) := (blk_cell BK124.out 0).trans rfl; have hcz25_1 : w23.cell? ⟨gb124, 1, none⟩ = some (.string (⟨#[]⟩ : ByteArray)) := (blk_cell BK124.out 1).trans rfl; have hfz25_0 := blk_frozen BK124.out 0; have hfz25_1 := blk_frozen BK124.out 1; have hcz26_0 : w23.cell? ⟨gb118, 0, none⟩ = some (.int .u64 ((rd_T46 l0 x9_1).f0)) := (blk_cell BK118.out 0).trans rfl; have hcz26_1 : w23.cell? ⟨gb118, 1, none⟩ = some (.string ((rd_T46 l0 x9_1).f1)) := (blk_cell BK118.out 1).trans rfl; have hfz26_0 := blk_frozen BK118.out 0; have hfz26_1 := blk_frozen BK118.out 1))
              go_roundg k2
              case measure => have := HK1.out; have := HK2.out; omega
              case rel => exact ⟨(wrap64 (x22_2 + 1)), (by first | rfl | (simp; done) | (simp [*]; done)), H', ⟨by have := HK1.out; have := HK2.out; omega⟩, ⟨by (with_reducible repeat (first | refine blk_drewN ?_ _ | refine blk_drew ?_ | refine blk_alloc ?_ _)); refine blk_far ?_ NB118_124.out _; (with_reducible repeat (first | refine blk_drewN ?_ _ | refine blk_drew ?_ | refine blk_alloc ?_ _)); refine blk_far ?_ NB118_124.out _; (with_reducible repeat (first | refine blk_drewN ?_ _ | refine blk_drew ?_ | refine blk_alloc ?_ _)); exact BK118.out⟩, ⟨by repeat (first | (with_reducible first | exact HB.out | apply below_alloc | apply pw_below_drewN | apply below_drew1 | refine below_set ?_ GE118.out | refine below_set ?_ GE124.out) | exact HB.out)⟩⟩
            ·rw [if_neg c17] at H
             exact absurd H (by simp)
           ·rw [if_neg c16] at H
            exact absurd H (by simp)
          ·rw [if_neg c15] at H
           have c15b0 : decide (x22_2 < (y119.length : Int)) = false := decide_eq_false c15
           clear c15
           have H' := Aside0.mk H
           clear H
           go_wp2
           go_roundg k2
           case measure => have := HK1.out; have := HK2.out; omega
           case rel => exact ⟨(wrap64 (x9_1 + 1)), (by first | rfl | (simp; done) | (simp [*]; done)), H', ⟨by have := HK1.out; have := HK2.out; omega⟩, ⟨by repeat (first | (with_reducible first | exact HB.out | apply below_alloc | apply pw_below_drewN | apply below_drew1 | refine below_set ?_ GE118.out) | exact HB.out)⟩⟩
       ·rw [if_neg c9] at H
        exact absurd H (by simp)
     ·rw [if_neg c4] at H
      exact absurd H (by simp)
    ·rw [if_neg c3] at H
     exact absurd H (by simp)
   ·rw [if_neg c2] at H
    have c2b0 : decide (x9_1 < (l0.length : Int)) = false := decide_eq_false c2
    clear c2
    obtain rfl := Option.some.inj H
    go_wp2
    go_ret
    exact ⟨by first | rfl | (simp [errW_none, errW_some] <;> rfl) | (simp [*, errW_none, errW_some] <;> rfl), by repeat (first | (with_reducible first | exact HB.out | apply below_alloc | apply pw_below_drewN | apply below_drew1) | exact HB.out)⟩
/-! ### saltuslaw16_alive: function 26 -/
/-! ### saltusref16_Floor: function 27 -/
/-! ### saltusref16_HopsSame: function 28 -/
/-! ### saltusref15_Height: function 18 -/
def saltusref15_Height.l0 : Nat → Int → Int → Option (Int)
 | 0, _, _ => none
 | k + 1, x5, x6 => if (Int.tmod x5 2) = 0 then (if x6 < 8 then (saltusref15_Height.l0 k (IntKind.u64.wrap (Int.tdiv x5 2)) (wrap64 (x6 + 1))) else (some x6)) else (some x6)
def saltusref15_Height.f (k : Nat) (a0 : ByteArray) (a1 : Int) : Option (Int) := (saltusref02_Low.f a1 8).bind fun t137 => ((saltusref10_Word.f a0 t137).bind fun t138 => (saltusref15_Height.l0 k t138 1))
theorem saltusref15_Height.mono_l : ∀ k, (∀ y0 y1, LeO (saltusref15_Height.l0 k y0 y1) (saltusref15_Height.l0 (k + 1) y0 y1))
 | 0 => fun _ _ r h => by simp [saltusref15_Height.l0] at h
 | k + 1 => by
  have ih0 := saltusref15_Height.mono_l k
  ·intro y0 y1
   unfold saltusref15_Height.l0
   repeat' first
   | (with_reducible exact ih0 _ _)
   | (with_reducible exact LeO.refl _)
   | (with_reducible exact LeO.none _)
   | (with_reducible refine LeO.ite ?_ ?_)
   | (with_reducible refine LeO.bind ?_ (fun _ => ?_))
   | exact ih0 _ _
   | exact LeO.none _
   | refine LeO.ite ?_ ?_
   | refine LeO.bind ?_ (fun _ => ?_)
theorem saltusref15_Height.mono : ∀ a0 a1 k, LeO (saltusref15_Height.f k a0 a1) (saltusref15_Height.f (k + 1) a0 a1) := by
 intro a0 a1 k
 have ih0 := saltusref15_Height.mono_l k
 unfold saltusref15_Height.f
 repeat' first
   | (with_reducible exact ih0 _ _)
   | (with_reducible exact LeO.refl _)
   | (with_reducible exact LeO.none _)
   | (with_reducible refine LeO.ite ?_ ?_)
   | (with_reducible refine LeO.bind ?_ (fun _ => ?_))
   | exact ih0 _ _
   | exact LeO.none _
   | refine LeO.ite ?_ ?_
   | refine LeO.bind ?_ (fun _ => ?_)
set_option maxHeartbeats 8000000 in
set_option maxRecDepth 100000 in
theorem saltusref15_Height.calls (k : Nat) (a0 : ByteArray) (a1 : Int) (r : Int) (w : World) (h : saltusref15_Height.f k a0 a1 = some r) :
  Calls Tryd.prog 18 #[.string a0, .int .u64 a1] w fun e w' => e = .returned (.int .i64 r) ∧ Below w.heap.size w w' := by
 have HB := Aside0.mk (Below.refl w.heap.size w)
 have H : ((saltusref02_Low.f a1 8).bind fun t137 => ((saltusref10_Word.f a0 t137).bind fun t138 => (saltusref15_Height.l0 k t138 1))) = some r := h
 clear h
 replace H := Option.bind_eq_some_iff.mp H
 obtain ⟨t137, A30, H⟩ := H
 (try dsimp only at H)
 have A3 := Aside0.mk A30
 clear A30
 replace H := Option.bind_eq_some_iff.mp H
 obtain ⟨t138, A40, H⟩ := H
 (try dsimp only at H)
 have A4 := Aside0.mk A40
 clear A40
 have H' := Aside0.mk H
 clear H
 go_enter Tryd.func18, Tryd.ntmps18
 go_wp2_with (first | ((with_reducible refine gate_callee (f := 64) rfl ?_); refine goesL_ (some 9) rfl rfl Tryd.func64 (by kernel_rfl) rfl #[.int .u64 a1, .int .i64 8] rfl (by (try simp only [List.map_toArray, List.map_cons, List.map_nil]); first | done | rfl | (simp only [List.length_drop, List.length_take]; rfl)) ?_; (with_reducible refine (saltusref02_Low.calls a1 8 t137 _ A3.out).mono ?_); rintro e w5 ⟨rfl, hb⟩; refine ⟨_, rfl, ?_⟩; have n0_ := Aside0.mk (below_step (by repeat (first | (with_reducible first | exact HB.out | apply below_alloc | apply pw_below_drewN | apply below_drew1) | exact HB.out)) hb); clear HB; have HB := n0_; clear n0_; (try clear hb); (try clear hb2); (try clear hk); (try clear hi)) | ((with_reducible refine gate_callee (f := 63) rfl ?_); refine goesL_ (some 10) rfl rfl Tryd.func63 (by kernel_rfl) rfl #[.string a0, .string t137] rfl (by (try simp only [List.map_toArray, List.map_cons, List.map_nil]); first | done | rfl | (simp only [List.length_drop, List.length_take]; rfl)) ?_; (with_reducible refine (saltusref10_Word.calls a0 t137 t138 _ A4.out).mono ?_); rintro e w6 ⟨rfl, hb⟩; refine ⟨_, rfl, ?_⟩; have n0_ := Aside0.mk (below_step (by repeat (first | (with_reducible first | exact HB.out | apply below_alloc | apply pw_below_drewN | apply below_drew1) | exact HB.out)) hb); clear HB; have HB := n0_; clear n0_; (try clear hb); (try clear hb2); (try clear hk); (try clear hi)))
 go_loopg [5, 6] k (fun kq v5 v6 w' => ∃ (x5_1 : Int) (x6_1 : Int), v5 = .int .u64 x5_1 ∧ v6 = .int .i64 x6_1 ∧ Aside0 (saltusref15_Height.l0 kq x5_1 x6_1 = some r) ∧ Aside0 (kq ≤ k) ∧ Aside0 (Below w.heap.size w w'))
 case atStart => exact ⟨(t138), (1), (by first | rfl | (simp; done) | (simp [*]; done)), (by first | rfl | (simp; done) | (simp [*]; done)), H', ⟨Nat.le_refl _⟩, ⟨by repeat (first | (with_reducible first | exact HB.out | apply below_alloc | apply pw_below_drewN | apply below_drew1) | exact HB.out)⟩⟩
 case round =>
  clear H'
  try clear c1
  try clear p2
  try clear c6
  obtain ⟨x5_1, x6_1, rfl, rfl, HA, HK1, HB⟩ := hrel
  cases gk with
  | zero => exact absurd HA.out (by simp [saltusref15_Height.l0])
  | succ k1 =>
   have H := HA.out
   clear HA
   simp only [saltusref15_Height.l0] at H
   by_cases c7 : (Int.tmod x5_1 2) = 0
   ·rw [if_pos c7] at H
    have c7b0 : ((Int.tmod x5_1 2) == 0) = true := beq_iff_eq.mpr c7
    have c7b1 : ((Int.tmod x5_1 2) != 0) = false := bne_eq_false_iff_eq.mpr c7
    clear c7
    by_cases c8 : x6_1 < 8
    ·rw [if_pos c8] at H
     have c8b0 : decide (x6_1 < 8) = true := decide_eq_true c8
     clear c8
     have H' := Aside0.mk H
     clear H
     go_wp2
     go_roundg k1
     case measure => have := HK1.out; omega
     case rel => exact ⟨(IntKind.u64.wrap (Int.tdiv x5_1 2)), (wrap64 (x6_1 + 1)), (by first | rfl | (simp; done) | (simp [*]; done)), (by first | rfl | (simp; done) | (simp [*]; done)), H', ⟨by have := HK1.out; omega⟩, ⟨by repeat (first | (with_reducible first | exact HB.out | apply below_alloc | apply pw_below_drewN | apply below_drew1) | exact HB.out)⟩⟩
    ·rw [if_neg c8] at H
     have c8b0 : decide (x6_1 < 8) = false := decide_eq_false c8
     clear c8
     obtain rfl := Option.some.inj H
     go_wp2
     go_ret
     exact ⟨by first | rfl | (simp [errW_none, errW_some] <;> rfl) | (simp [*, errW_none, errW_some] <;> rfl), by repeat (first | (with_reducible first | exact HB.out | apply below_alloc | apply pw_below_drewN | apply below_drew1) | exact HB.out)⟩
   ·rw [if_neg c7] at H
    have c7b0 : ((Int.tmod x5_1 2) == 0) = false := beq_eq_false_iff_ne.mpr c7
    have c7b1 : ((Int.tmod x5_1 2) != 0) = true := bne_iff_ne.mpr c7
    obtain rfl := Option.some.inj H
    go_wp2
    go_ret
    exact ⟨by first | rfl | (simp [errW_none, errW_some] <;> rfl) | (simp [*, errW_none, errW_some] <;> rfl), by repeat (first | (with_reducible first | exact HB.out | apply below_alloc | apply pw_below_drewN | apply below_drew1) | exact HB.out)⟩
/-! ### saltusref15_Heights: function 21 -/
def saltusref15_Heights.l0 : Nat → ByteArray → List Int → List Int → Int → Int → Option (List Int)
 | 0, _, _, _, _, _ => none
 | k + 1, x0, x5, x9, x10, x11 => if x11 < x10 then (if 0 ≤ x11 then (if x11 < (x9.length : Int) then ((saltusref15_Height.f k x0 (rd x9 x11)).bind fun t143 => (if x5.length < 17592186044416 then (saltusref15_Heights.l0 k x0 (x5 ++ [t143]) x9 x10 (wrap64 (x11 + 1))) else (none))) else (none)) else (none)) else (some x5)
def saltusref15_Heights.f (k : Nat) (a0 : ByteArray) (l1 : List Int) : Option (List Int) := saltusref15_Heights.l0 k a0 (([] : List Int)) l1 (l1.length : Int) 0
theorem saltusref15_Heights.mono_l : ∀ k, (∀ y0 y1 y2 y3 y4, LeO (saltusref15_Heights.l0 k y0 y1 y2 y3 y4) (saltusref15_Heights.l0 (k + 1) y0 y1 y2 y3 y4))
 | 0 => fun _ _ _ _ _ r h => by simp [saltusref15_Heights.l0] at h
 | k + 1 => by
  have ih0 := saltusref15_Heights.mono_l k
  ·intro y0 y1 y2 y3 y4
   unfold saltusref15_Heights.l0
   repeat' first
   | (with_reducible exact ih0 _ _ _ _ _)
   | (with_reducible exact saltusref15_Height.mono _ _ _)
   | (with_reducible exact LeO.refl _)
   | (with_reducible exact LeO.none _)
   | (with_reducible refine LeO.ite ?_ ?_)
   | (with_reducible refine LeO.bind ?_ (fun _ => ?_))
   | exact ih0 _ _ _ _ _
   | exact saltusref15_Height.mono _ _ _
   | exact LeO.none _
   | refine LeO.ite ?_ ?_
   | refine LeO.bind ?_ (fun _ => ?_)
theorem saltusref15_Heights.mono : ∀ a0 a1 k, LeO (saltusref15_Heights.f k a0 a1) (saltusref15_Heights.f (k + 1) a0 a1) := by
 intro a0 a1 k
 have ih0 := saltusref15_Heights.mono_l k
 unfold saltusref15_Heights.f
 repeat' first
   | (with_reducible exact ih0 _ _ _ _ _)
   | (with_reducible exact saltusref15_Height.mono _ _ _)
   | (with_reducible exact LeO.refl _)
   | (with_reducible exact LeO.none _)
   | (with_reducible refine LeO.ite ?_ ?_)
   | (with_reducible refine LeO.bind ?_ (fun _ => ?_))
   | exact ih0 _ _ _ _ _
   | exact saltusref15_Height.mono _ _ _
   | exact LeO.none _
   | refine LeO.ite ?_ ?_
   | refine LeO.bind ?_ (fun _ => ?_)
set_option maxHeartbeats 8000000 in
set_option maxRecDepth 100000 in
theorem saltusref15_Heights.calls (k : Nat) (a0 : ByteArray) (A1 : Option Addr) (c1 : Nat) (l1 : List Int) (r : List Int) (w : World) (hr1 : Kd.C (Kd.int .u64) w A1 l1.length l1) (hc1 : l1.length ≤ c1) (h : saltusref15_Heights.f k a0 l1 = some r) :
  Calls Tryd.prog 21 #[.string a0, .slice A1 l1.length c1] w fun e w' => ∃ v0_ : Value, e = .returned (v0_) ∧ Kd.R (Kd.int .i64) 3 w' w.heap.size (fun _ => True) v0_ r ∧ Below w.heap.size w w' := by
 have HR1 := Aside0.mk hr1
 have HC1 := Aside0.mk hc1
 clear hr1 hc1
 have HB := Aside0.mk (Below.refl w.heap.size w)
 have H : (saltusref15_Heights.l0 k a0 (([] : List Int)) l1 (l1.length : Int) 0) = some r := h
 clear h
 obtain ⟨y139, hy139⟩ : ∃ y_ : List Int, y_ = (([] : List Int)) := ⟨_, rfl⟩
 replace H : (saltusref15_Heights.l0 k a0 y139 l1 (l1.length : Int) 0) = some r := by first | (rw [hy139]; with_reducible exact H) | (have H2_ := (Option.bind_some _ _).symm.trans H; rw [hy139]; with_reducible exact H2_) | (have H2_ := (Option.bind_some _ _).symm.trans H; with_reducible exact H2_) | with_reducible exact H | (rw [hy139]; exact H) | exact H
 have Ny139 := Aside0.mk hy139
 clear hy139
 have H' := Aside0.mk H
 clear H
 go_enter Tryd.func21, Tryd.ntmps21
 go_wp2_with (first | ((with_reducible refine gate_dst (N := 8) rfl ?_); refine Kd.R_lit (Kd.int .i64) _ 3 ?hg (N := 8) ?hd (xs := ([] : List Int)) (inner := []) (ok := fun _ => True) (okp := fun _ => True) ?hr ?hp (fun _ hk => hk) trivial (Below.refl _ _) (Nat.le_refl _) (by simp) ?_; (case hd => rfl); (case hg => rfl); (case hr => first | (go_simp; done) | (go_simp; rfl)); (case hp => exact (Reps.none _ _)); intro v140 w3 ho4 hb hg_ hnew_; clear hg_ hnew_; (first | rw [← Ny139.out] at ho4 | (simp only [Int.reduceToNat] at ho4; rw [← Ny139.out] at ho4)); have n0_ := Aside0.mk (Kd.R_lower ho4 (below_size (by repeat (first | (with_reducible first | exact HB.out | apply below_alloc | apply pw_below_drewN | apply below_drew1) | exact HB.out)))); have n1_ := Aside0.mk (below_step (by repeat (first | (with_reducible first | exact HB.out | apply below_alloc | apply pw_below_drewN | apply below_drew1) | exact HB.out)) hb); clear HB; have HO141 := n0_; have HB := n1_; clear n0_ n1_; clear hb ho4))
 go_loopg [5, 11] k (fun kq v5 v11 w' => ∃ (x5_1 : List Int) (x11_1 : Int), v11 = .int .i64 x11_1 ∧ Aside0 (saltusref15_Heights.l0 kq a0 x5_1 l1 (l1.length : Int) x11_1 = some r) ∧ Aside0 (kq ≤ k) ∧ Aside0 (Kd.R (Kd.int .i64) 3 w' w.heap.size (fun _ => True) v5 x5_1) ∧ Aside0 (Below w.heap.size w w'))
 case atStart => exact ⟨(y139), (0), (by first | rfl | (simp; done) | (simp [*]; done)), H', ⟨Nat.le_refl _⟩, ⟨by (with_reducible repeat (first | apply Kd.R_alloc | apply Kd.R_drewN | apply Kd.R_drew)); exact HO141.out⟩, ⟨by repeat (first | (with_reducible first | exact HB.out | apply below_alloc | apply pw_below_drewN | apply below_drew1) | exact HB.out)⟩⟩
 case round =>
  clear H'
  try clear c1
  try clear c2
  try clear p2
  obtain ⟨x5_1, x11_1, rfl, HA, HK1, HO_5, HB⟩ := hrel
  cases gk with
  | zero => exact absurd HA.out (by simp [saltusref15_Heights.l0])
  | succ k1 =>
   have H := HA.out
   clear HA
   simp only [saltusref15_Heights.l0] at H
   by_cases c5 : x11_1 < (l1.length : Int)
   ·rw [if_pos c5] at H
    have c5b0 : decide (x11_1 < (l1.length : Int)) = true := decide_eq_true c5
    clear c5
    by_cases c6 : 0 ≤ x11_1
    ·rw [if_pos c6] at H
     have c6b0 : decide (0 ≤ x11_1) = true := decide_eq_true c6
     clear c6
     by_cases c7 : x11_1 < (l1.length : Int)
     ·rw [if_pos c7] at H
      have c7b0 : decide (x11_1 < (l1.length : Int)) = true := decide_eq_true c7
      clear c7
      replace H := Option.bind_eq_some_iff.mp H
      obtain ⟨t143, A80, H⟩ := H
      (try dsimp only at H)
      have A8 := Aside0.mk A80
      clear A80
      by_cases c9 : x5_1.length < 17592186044416
      ·rw [if_pos c9] at H
       have LMc9 := Aside0.mk c9
       clear c9
       obtain ⟨y144, hy144⟩ : ∃ y_ : List Int, y_ = (x5_1 ++ [t143]) := ⟨_, rfl⟩
       replace H : (saltusref15_Heights.l0 k1 a0 y144 l1 (l1.length : Int) (wrap64 (x11_1 + 1))) = some r := by first | (rw [hy144]; with_reducible exact H) | (have H2_ := (Option.bind_some _ _).symm.trans H; rw [hy144]; with_reducible exact H2_) | (have H2_ := (Option.bind_some _ _).symm.trans H; with_reducible exact H2_) | with_reducible exact H | (rw [hy144]; exact H) | exact H
       have Ny144 := Aside0.mk hy144
       clear hy144
       have H' := Aside0.mk H
       clear H
       have p142 : 0 ≤ (x11_1 : Int) := of_decide_eq_true (by first | (with_reducible assumption) | assumption)
       have q142 : x11_1 < (l1.length : Int) := of_decide_eq_true (by first | (with_reducible assumption) | assumption)
       obtain ⟨ad142, e142, hx142_0⟩ := Kd.at_int HR1.out x11_1 p142 q142
       cases e142
       replace hx142_0 := (HB.out.cell (World.block_lt_of_cell? w _ hx142_0)).trans hx142_0
       replace p142 := eq_true p142
       replace q142 := eq_true q142
       go_wp2_with (first | ((with_reducible refine gate_callee (f := 18) rfl ?_); refine goesL_ (some 18) rfl rfl Tryd.func18 (by kernel_rfl) rfl #[.string a0, .int .u64 (rd l1 x11_1)] rfl (by (try simp only [List.map_toArray, List.map_cons, List.map_nil]); first | done | rfl | (simp only [List.length_drop, List.length_take]; rfl)) ?_; (with_reducible refine (saltusref15_Height.calls k1 a0 (rd l1 x11_1) t143 _ A8.out).mono ?_); rintro e w10 ⟨rfl, hb⟩; refine ⟨_, rfl, ?_⟩; have n0_ := Aside0.mk (Kd.R_below (by (with_reducible repeat (first | apply Kd.R_alloc | apply Kd.R_drewN | apply Kd.R_drew)); exact HO_5.out) hb); have n1_ := Aside0.mk (below_step (by repeat (first | (with_reducible first | exact HB.out | apply below_alloc | apply pw_below_drewN | apply below_drew1) | exact HB.out)) hb); clear HO_5; clear HB; have HO_5 := n0_; have HB := n1_; clear n0_ n1_; (try clear hb); (try clear hb2); (try clear hk); (try clear hi)) | ((with_reducible refine gate_builtin (b := .append) (xs := #[.tmp 15, .tmp 19]) rfl ?_); at_builtin; refine Kd.R_append (Kd.int .i64) (w0 := w) w.heap.size rfl (.tmp 15) (.tmp 19) 27 3 (.int .i64 0) 8 rfl Tryd.underlying27 info3 rfl (by decide) (by omega) u5 x5_1 t143 [.int .i64 t143] (fun _ => True) (fun _ => False) rfl rfl ?aP (fun _ hk => hk.elim) ?aF ?aO ?aB ?aS ?aL ?_; (case aP => exact rfl); (case aB => exact (by repeat (first | (with_reducible first | exact HB.out | apply below_alloc | apply pw_below_drewN | apply below_drew1) | exact HB.out))); (case aF => exact (fun _ _ => trivial)); (case aO => exact (by (with_reducible repeat (first | apply Kd.R_alloc | apply Kd.R_drewN | apply Kd.R_drew)); exact HO_5.out)); (case aS => exact (below_size (by repeat (first | (with_reducible first | exact HB.out | apply below_alloc | apply pw_below_drewN | apply below_drew1) | exact HB.out)))); (case aL => have := LMc9.out; omega); intro v145 w11 ho hb hg hat; rw [← Ny144.out] at ho; have n0_ := Aside0.mk (hb); have n1_ := Aside0.mk (ho); clear HB; clear HO_5; have HB := n0_; have HO146 := n1_; clear n0_ n1_; clear ho hb hg hat))
       go_roundg k1
       case measure => have := HK1.out; omega
       case rel => exact ⟨(y144), (wrap64 (x11_1 + 1)), (by first | rfl | (simp; done) | (simp [*]; done)), H', ⟨by have := HK1.out; omega⟩, ⟨by (with_reducible repeat (first | apply Kd.R_alloc | apply Kd.R_drewN | apply Kd.R_drew)); exact HO146.out⟩, ⟨by repeat (first | (with_reducible first | exact HB.out | apply below_alloc | apply pw_below_drewN | apply below_drew1) | exact HB.out)⟩⟩
      ·rw [if_neg c9] at H
       exact absurd H (by simp)
     ·rw [if_neg c7] at H
      exact absurd H (by simp)
    ·rw [if_neg c6] at H
     exact absurd H (by simp)
   ·rw [if_neg c5] at H
    have c5b0 : decide (x11_1 < (l1.length : Int)) = false := decide_eq_false c5
    clear c5
    obtain rfl := Option.some.inj H
    go_wp2
    go_ret
    exact ⟨_, by first | rfl | (simp [errW_none, errW_some] <;> rfl) | (simp [*, errW_none, errW_some] <;> rfl), by (with_reducible repeat (first | apply Kd.R_alloc | apply Kd.R_drewN | apply Kd.R_drew)); exact HO_5.out, by repeat (first | (with_reducible first | exact HB.out | apply below_alloc | apply pw_below_drewN | apply below_drew1) | exact HB.out)⟩
end Go.Proofs.YtolbhliepkcihaaDoor.QSF
end
section
namespace Go.Proofs.YtolbhliepkcihaaDoor.QSF
open Go.RowKit Go.Proofs.YtolbhliepkcihaaDoor.Kinds Go.Proofs.YtolbhliepkcihaaDoorW.PrintWords Go.Proofs.YtolbhliepkcihaaDoorW.PrintLast Go.Proofs.YtolbhliepkcihaaDoorW.PrintMore
attribute [local go_sem] max2_int min2_int max_two min_two max_three min_three max_four min_four   -- for this text's walks alone
set_option linter.unusedVariables false
set_option linter.unusedSimpArgs false
/-! ### saltusref16_Keys: function 66 -/
def saltusref16_Keys.l0 : Nat → List Int → List (S46) → Int → Int → Option (List Int)
 | 0, _, _, _, _ => none
 | k + 1, x3, x7, x8, x9 => if x9 < x8 then (if 0 ≤ x9 then (if x9 < (x7.length : Int) then (if x3.length < 17592186044416 then (saltusref16_Keys.l0 k (x3 ++ [(rd_T46 x7 x9).f0]) x7 x8 (wrap64 (x9 + 1))) else (none)) else (none)) else (none)) else (some x3)
def saltusref16_Keys.f (k : Nat) (l0 : List (S46)) : Option (List Int) := saltusref16_Keys.l0 k (([] : List Int)) l0 (l0.length : Int) 0
theorem saltusref16_Keys.mono_l : ∀ k, (∀ y0 y1 y2 y3, LeO (saltusref16_Keys.l0 k y0 y1 y2 y3) (saltusref16_Keys.l0 (k + 1) y0 y1 y2 y3))
 | 0 => fun _ _ _ _ r h => by simp [saltusref16_Keys.l0] at h
 | k + 1 => by
  have ih0 := saltusref16_Keys.mono_l k
  ·intro y0 y1 y2 y3
   unfold saltusref16_Keys.l0
   repeat' first
   | (with_reducible exact ih0 _ _ _ _)
   | (with_reducible exact LeO.refl _)
   | (with_reducible exact LeO.none _)
   | (with_reducible refine LeO.ite ?_ ?_)
   | (with_reducible refine LeO.bind ?_ (fun _ => ?_))
   | exact ih0 _ _ _ _
   | exact LeO.none _
   | refine LeO.ite ?_ ?_
   | refine LeO.bind ?_ (fun _ => ?_)
theorem saltusref16_Keys.mono : ∀ a0 k, LeO (saltusref16_Keys.f k a0) (saltusref16_Keys.f (k + 1) a0) := by
 intro a0 k
 have ih0 := saltusref16_Keys.mono_l k
 unfold saltusref16_Keys.f
 repeat' first
   | (with_reducible exact ih0 _ _ _ _)
   | (with_reducible exact LeO.refl _)
   | (with_reducible exact LeO.none _)
   | (with_reducible refine LeO.ite ?_ ?_)
   | (with_reducible refine LeO.bind ?_ (fun _ => ?_))
   | exact ih0 _ _ _ _
   | exact LeO.none _
   | refine LeO.ite ?_ ?_
   | refine LeO.bind ?_ (fun _ => ?_)
set_option maxHeartbeats 8000000 in
set_option maxRecDepth 100000 in
theorem saltusref16_Keys.calls (k : Nat) (A0 : Option Addr) (c0 : Nat) (l0 : List (S46)) (r : List Int) (w : World) (hr0 : Kd.C k46 w A0 l0.length l0) (hc0 : l0.length ≤ c0) (h : saltusref16_Keys.f k l0 = some r) :
  Calls Tryd.prog 66 #[.slice A0 l0.length c0] w fun e w' => ∃ v0_ : Value, e = .returned (v0_) ∧ Kd.R (Kd.int .u64) 22 w' w.heap.size (fun _ => True) v0_ r ∧ Below w.heap.size w w' := by
 have hu46 := Tryd.underlying46
 have HR0 := Aside0.mk hr0
 have HC0 := Aside0.mk hc0
 clear hr0 hc0
 have HB := Aside0.mk (Below.refl w.heap.size w)
 have H : (saltusref16_Keys.l0 k (([] : List Int)) l0 (l0.length : Int) 0) = some r := h
 clear h
 obtain ⟨y147, hy147⟩ : ∃ y_ : List Int, y_ = (([] : List Int)) := ⟨_, rfl⟩
 replace H : (saltusref16_Keys.l0 k y147 l0 (l0.length : Int) 0) = some r := by first | (rw [hy147]; with_reducible exact H) | (have H2_ := (Option.bind_some _ _).symm.trans H; rw [hy147]; with_reducible exact H2_) | (have H2_ := (Option.bind_some _ _).symm.trans H; with_reducible exact H2_) | with_reducible exact H | (rw [hy147]; exact H) | exact H
 have Ny147 := Aside0.mk hy147
 clear hy147
 have H' := Aside0.mk H
 clear H
 go_enter Tryd.func66, Tryd.ntmps66
 go_wp2_with (first | ((with_reducible refine gate_dst (N := 6) rfl ?_); refine Kd.R_lit (Kd.int .u64) _ 22 ?hg (N := 6) ?hd (xs := ([] : List Int)) (inner := []) (ok := fun _ => True) (okp := fun _ => True) ?hr ?hp (fun _ hk => hk) trivial (Below.refl _ _) (Nat.le_refl _) (by simp) ?_; (case hd => rfl); (case hg => rfl); (case hr => first | (go_simp; done) | (go_simp; rfl)); (case hp => exact (Reps.none _ _)); intro v148 w2 ho3 hb hg_ hnew_; clear hg_ hnew_; (first | rw [← Ny147.out] at ho3 | (simp only [Int.reduceToNat] at ho3; rw [← Ny147.out] at ho3)); have n0_ := Aside0.mk (Kd.R_lower ho3 (below_size (by repeat (first | (with_reducible first | exact HB.out | apply below_alloc | apply pw_below_drewN | apply below_drew1) | exact HB.out)))); have n1_ := Aside0.mk (below_step (by repeat (first | (with_reducible first | exact HB.out | apply below_alloc | apply pw_below_drewN | apply below_drew1) | exact HB.out)) hb); clear HB; have HO149 := n0_; have HB := n1_; clear n0_ n1_; clear hb ho3))
 go_loopg [3, 9] k (fun kq v3 v9 w' => ∃ (x3_1 : List Int) (x9_1 : Int), v9 = .int .i64 x9_1 ∧ Aside0 (saltusref16_Keys.l0 kq x3_1 l0 (l0.length : Int) x9_1 = some r) ∧ Aside0 (kq ≤ k) ∧ Aside0 (Kd.R (Kd.int .u64) 22 w' w.heap.size (fun _ => True) v3 x3_1) ∧ Aside0 (Below w.heap.size w w'))
 case atStart => exact ⟨(y147), (0), (by first | rfl | (simp; done) | (simp [*]; done)), H', ⟨Nat.le_refl _⟩, ⟨by (with_reducible repeat (first | apply Kd.R_alloc | apply Kd.R_drewN | apply Kd.R_drew)); exact HO149.out⟩, ⟨by repeat (first | (with_reducible first | exact HB.out | apply below_alloc | apply pw_below_drewN | apply below_drew1) | exact HB.out)⟩⟩
 case round =>
  clear H'
  try clear p2
  obtain ⟨x3_1, x9_1, rfl, HA, HK1, HO_3, HB⟩ := hrel
  cases gk with
  | zero => exact absurd HA.out (by simp [saltusref16_Keys.l0])
  | succ k1 =>
   have H := HA.out
   clear HA
   simp only [saltusref16_Keys.l0] at H
   by_cases c4 : x9_1 < (l0.length : Int)
   ·rw [if_pos c4] at H
    have c4b0 : decide (x9_1 < (l0.length : Int)) = true := decide_eq_true c4
    clear c4
    by_cases c5 : 0 ≤ x9_1
    ·rw [if_pos c5] at H
     have c5b0 : decide (0 ≤ x9_1) = true := decide_eq_true c5
     clear c5
     by_cases c6 : x9_1 < (l0.length : Int)
     ·rw [if_pos c6] at H
      have c6b0 : decide (x9_1 < (l0.length : Int)) = true := decide_eq_true c6
      clear c6
      by_cases c7 : x3_1.length < 17592186044416
      ·rw [if_pos c7] at H
       have LMc7 := Aside0.mk c7
       clear c7
       obtain ⟨y152, hy152⟩ : ∃ y_ : List Int, y_ = (x3_1 ++ [(rd_T46 l0 x9_1).f0]) := ⟨_, rfl⟩
       replace H : (saltusref16_Keys.l0 k1 y152 l0 (l0.length : Int) (wrap64 (x9_1 + 1))) = some r := by first | (rw [hy152]; with_reducible exact H) | (have H2_ := (Option.bind_some _ _).symm.trans H; rw [hy152]; with_reducible exact H2_) | (have H2_ := (Option.bind_some _ _).symm.trans H; with_reducible exact H2_) | with_reducible exact H | (rw [hy152]; exact H) | exact H
       have Ny152 := Aside0.mk hy152
       clear hy152
       have H' := Aside0.mk H
       clear H
       have p150 : 0 ≤ (x9_1 : Int) := of_decide_eq_true (by first | (with_reducible assumption) | assumption)
       have q150 : x9_1 < (l0.length : Int) := of_decide_eq_true (by first | (with_reducible assumption) | assumption)
       obtain ⟨ad150, e150, hx150_0, hx150_1⟩ := at_T46 HR0.out x9_1 p150 q150
       cases e150
       replace hx150_0 := (HB.out.cell (World.block_lt_of_cell? w _ hx150_0)).trans hx150_0
       replace hx150_1 := (HB.out.cell (World.block_lt_of_cell? w _ hx150_1)).trans hx150_1
       replace p150 := eq_true p150
       replace q150 := eq_true q150
       go_wp2_with (first | ((with_reducible refine gate_dst (N := 5) rfl ?_); refine box_event ?hg (N := 5) ?hd (cs := #[.int .u64 0, .string (⟨#[]⟩ : ByteArray)]) (t := 46) ?hr ?_; (case hd => rfl); (case hg => rfl); (case hr => first | (go_simp; done) | (go_simp; rfl)); intro gb151 hg w8 hbox hb; have n0_ := Aside0.mk (Kd.R_below (by (with_reducible repeat (first | apply Kd.R_alloc | apply Kd.R_drewN | apply Kd.R_drew)); exact HO_3.out) hb); have n1_ := Aside0.mk (below_step (by repeat (first | (with_reducible first | exact HB.out | apply below_alloc | apply pw_below_drewN | apply below_drew1) | exact HB.out)) hb); have n2_ := Aside0.mk (hbox); have n3_ := Aside0.mk ((by rw [hg]; exact (below_size (by repeat (first | (with_reducible first | exact HB.out | apply below_alloc | apply pw_below_drewN | apply below_drew1) | exact HB.out))) : w.heap.size ≤ gb151)); have n4_ := Aside0.mk ((by rw [hg]; exact (below_size (by repeat (first | (with_reducible first | exact HB.out | apply below_alloc | apply pw_below_drewN | apply below_drew1) | exact HB.out))) : w.heap.size ≤ gb151)); clear HO_3; clear HB; have HO_3 := n0_; have HB := n1_; have BK151 := n2_; have GW151 := n3_; have GE151 := n4_; clear n0_ n1_ n2_ n3_ n4_; clear hb hbox hg; have hcz9_0 : w8.cell? ⟨gb151, 0, none⟩ = some (.int .u64 0) := (blk_cell BK151.out 0).trans rfl; have hcz9_1 : w8.cell? ⟨gb151, 1, none⟩ = some (.string (⟨#[]⟩ : ByteArray)) := (blk_cell BK151.out 1).trans rfl; have hfz9_0 := blk_frozen BK151.out 0; have hfz9_1 := blk_frozen BK151.out 1) | ((with_reducible refine gate_builtin (b := .append) (xs := #[.tmp 13, .tmp 16]) rfl ?_); at_builtin; refine Kd.R_append (Kd.int .u64) (w0 := w) w.heap.size rfl (.tmp 13) (.tmp 16) 23 22 (.int .u64 0) 8 rfl Tryd.underlying23 info22 rfl (by decide) (by omega) u3 x3_1 ((rd_T46 l0 x9_1).f0) [.int .u64 ((rd_T46 l0 x9_1).f0)] (fun _ => True) (fun _ => False) rfl (by first | (go_simp; done) | (go_simp; rfl)) ?aP (fun _ hk => hk.elim) ?aF ?aO ?aB ?aS ?aL ?_; (case aP => exact rfl); (case aB => exact (by repeat (first | (with_reducible first | exact HB.out | apply below_alloc | apply pw_below_drewN | apply below_drew1 | refine below_set ?_ GE151.out) | exact HB.out))); (case aF => exact (fun _ _ => trivial)); (case aO => exact (by (with_reducible repeat (first | apply Kd.R_alloc | apply Kd.R_drewN | apply Kd.R_drew)); exact Kd.R_mono (Kd.R_far (p := ⟨gb151, 1, none⟩) (Kd.R_far (p := ⟨gb151, 0, none⟩) (Kd.R_types HO_3.out BK151.out (by decide)) (fun _ hk => hk.2) (.int .u64 ((rd_T46 l0 x9_1).f0))) (fun _ hk => hk.2) (.string ((rd_T46 l0 x9_1).f1))) (fun _ hk => trivial))); (case aS => exact (below_size (by repeat (first | (with_reducible first | exact HB.out | apply below_alloc | apply pw_below_drewN | apply below_drew1 | refine below_set ?_ GE151.out) | exact HB.out)))); (case aL => have := LMc7.out; omega); intro v153 w10 ho hb hg hat; rw [← Ny152.out] at ho; have n0_ := Aside0.mk (blk_grown (g := gb151) (o := .cells #[.int .u64 ((rd_T46 l0 x9_1).f0), .string ((rd_T46 l0 x9_1).f1)] 46 (0, 0)) (by (with_reducible repeat (first | refine blk_drewN ?_ _ | refine blk_drew ?_ | refine blk_alloc ?_ _)); refine blk_put (cs := #[.int .u64 ((rd_T46 l0 x9_1).f0), .string (⟨#[]⟩ : ByteArray)]) ?_ 1 _ rfl; (with_reducible repeat (first | refine blk_drewN ?_ _ | refine blk_drew ?_ | refine blk_alloc ?_ _)); refine blk_put (cs := #[.int .u64 0, .string (⟨#[]⟩ : ByteArray)]) ?_ 0 _ rfl; (with_reducible repeat (first | refine blk_drewN ?_ _ | refine blk_drew ?_ | refine blk_alloc ?_ _)); exact BK151.out) hg (Kd.R_ne HO_3.out BK151.out (by decide))); have n1_ := Aside0.mk (hb); have n2_ := Aside0.mk (ho); clear BK151; clear HB; clear HO_3; have BK151 := n0_; have HB := n1_; have HO154 := n2_; clear n0_ n1_ n2_; clear ho hb hg hat))
       go_roundg k1
       case measure => have := HK1.out; omega
       case rel => exact ⟨(y152), (wrap64 (x9_1 + 1)), (by first | rfl | (simp; done) | (simp [*]; done)), H', ⟨by have := HK1.out; omega⟩, ⟨by (with_reducible repeat (first | apply Kd.R_alloc | apply Kd.R_drewN | apply Kd.R_drew)); exact HO154.out⟩, ⟨by repeat (first | (with_reducible first | exact HB.out | apply below_alloc | apply pw_below_drewN | apply below_drew1 | refine below_set ?_ GE151.out) | exact HB.out)⟩⟩
      ·rw [if_neg c7] at H
       exact absurd H (by simp)
     ·rw [if_neg c6] at H
      exact absurd H (by simp)
    ·rw [if_neg c5] at H
     exact absurd H (by simp)
   ·rw [if_neg c4] at H
    have c4b0 : decide (x9_1 < (l0.length : Int)) = false := decide_eq_false c4
    clear c4
    obtain rfl := Option.some.inj H
    go_wp2
    go_ret
    exact ⟨_, by first | rfl | (simp [errW_none, errW_some] <;> rfl) | (simp [*, errW_none, errW_some] <;> rfl), by (with_reducible repeat (first | apply Kd.R_alloc | apply Kd.R_drewN | apply Kd.R_drew)); exact HO_3.out, by repeat (first | (with_reducible first | exact HB.out | apply below_alloc | apply pw_below_drewN | apply below_drew1) | exact HB.out)⟩
/-! ### saltusref16_next: function 67 -/
/-! ### saltusref16_Hops: function 29 -/
/-! ### saltuslaw16_SkipFinds: function 6 -/
end Go.Proofs.YtolbhliepkcihaaDoor.QSF
end
section
namespace Go.Proofs.YtolbhliepkcihaaDoor.QSF
open Go.RowKit Go.Proofs.YtolbhliepkcihaaDoor.Kinds Go.Proofs.YtolbhliepkcihaaDoorW.PrintWords Go.Proofs.YtolbhliepkcihaaDoorW.PrintLast Go.Proofs.YtolbhliepkcihaaDoorW.PrintMore
attribute [local go_sem] max2_int min2_int max_two min_two max_three min_three max_four min_four   -- for this text's walks alone
set_option linter.unusedVariables false
set_option linter.unusedSimpArgs false
/-! ### saltuslaw16_SkipHops: function 7 -/
end Go.Proofs.YtolbhliepkcihaaDoor.QSF
end
section
namespace Go.Proofs.YtolbhliepkcihaaDoor.SkipPure
open Go.RowKit Go.Proofs.YtolbhliepkcihaaDoor.Kinds Go.Proofs.YtolbhliepkcihaaDoor.QSF Go.Proofs.YtolbhliepkcihaaDoorW.PrintWords Go.Proofs.YtolbhliepkcihaaDoorW.PrintLast Go.Proofs.YtolbhliepkcihaaDoorW.PrintMore Go.Proofs.YtolbhliepkcihaaDoor.Sha Go.Proofs.YtolbhliepkcihaaDoor.Mac Go.Proofs.YtolbhliepkcihaaDoor.Codec Go.Proofs.YtolbhliepkcihaaDoor.Tower
abbrev Item := S46
abbrev Hop := S48
def it (l : List Item) (i : Nat) : Item := rd_T46 l (i : Int)
def ky (l : List Item) (i : Nat) : Int := (it l i).f0
theorem w_succ (i n : Nat) (h : i < n) (hn : n ≤ 1000000000) : wrap64 ((i : Int) + 1) = ((i + 1 : Nat) : Int) := by unfold wrap64; omega
theorem mn_nat (a b : Nat) : mn (a : Int) (b : Int) = ((min a b : Nat) : Int) := by unfold mn; split <;> omega
/-! ### a tower's height, by halving -/
def tz (f x : Nat) : Nat := if x = 0 then f else Lib.ctzFrom f x
theorem tz_succ (f x : Nat) (h : x % 2 = 0) : tz (f + 1) x = tz f (x / 2) + 1 := by
 unfold tz
 by_cases h0 : x = 0
 ·subst h0
  rfl
 ·rw [if_neg h0, if_neg (by omega), Lib.ctzFrom, if_neg (by omega)]
  omega
theorem tz_odd (f x : Nat) (h : x % 2 ≠ 0) : tz (f + 1) x = 0 := by
 unfold tz
 rw [if_neg (by omega), Lib.ctzFrom, if_pos (by omega)]
theorem refheight_l0 (f : Nat) : ∀ (k x o : Nat), x < 18446744073709551616 → o ≤ 8 → 8 ≤ o + f → f < k → saltusref15_Height.l0 k (x : Int) (o : Int) = some ((min (tz f x + o) 8 : Nat) : Int) := by
 induction f with
 | zero =>
  intro k x o hx h1 h2 hk
  obtain ⟨k, rfl⟩ : ∃ m, k = m + 1 := ⟨k - 1, by omega⟩
  rw [saltusref15_Height.l0]
  have e : min (tz 0 x + o) 8 = o := by omega
  rw [e]
  split
  ·rw [if_neg (by omega)]
  ·rfl
 | succ f ih =>
  intro k x o hx h1 h2 hk
  obtain ⟨k, rfl⟩ : ∃ m, k = m + 1 := ⟨k - 1, by omega⟩
  have e1 : Int.tmod (x : Int) 2 = ((x % 2 : Nat) : Int) := by rw [Int.tmod_eq_emod_of_nonneg (Int.natCast_nonneg _)]; omega
  rw [saltusref15_Height.l0, e1]
  by_cases hp : x % 2 = 0
  ·rw [if_pos (by omega)]
   have ez := tz_succ f x hp
   by_cases h8 : o < 8
   ·have e2 : IntKind.u64.wrap (Int.tdiv (x : Int) 2) = ((x / 2 : Nat) : Int) := by
     rw [Int.tdiv_eq_ediv_of_nonneg (Int.natCast_nonneg _), IntKind.wrap_u64]
     omega
    have e3 : wrap64 ((o : Int) + 1) = ((o + 1 : Nat) : Int) := by unfold wrap64; omega
    rw [if_pos (by omega), e2, e3, ih k (x / 2) (o + 1) (by omega) (by omega) (by omega) (by omega), ez]
    congr 2
    omega
   ·rw [if_neg (by omega)]
    congr 2
    omega
  ·rw [if_neg (by omega), tz_odd f x hp]
   congr 2
   omega
theorem refheight_f (key : ByteArray) (n : Nat) (hk : key.size ≤ 1000000000) (hn : n < 18446744073709551616) (k : Nat) (h : 64 < k) : saltusref15_Height.f k key (n : Int) = some ((heightN key n : Nat) : Int) := by
 have e0 : saltusref02_Low.f (n : Int) 8 = some (numS n) := by unfold saltusref02_Low.f; rw [if_pos ⟨by omega, by omega, by decide, by decide⟩, Int.toNat_natCast]; rfl
 have e1 : saltusref10_Word.f key (numS n) = some ((wordN key (numS n) : Nat) : Int) := if_pos ⟨hk, by rw [numS_size]; decide⟩
 unfold saltusref15_Height.f
 rw [e0, Option.bind_some, e1, Option.bind_some]
 have h0 := refheight_l0 64 k (wordN key (numS n)) 1 (wordN_lt key (numS n)) (by decide) (by decide) h
 rw [show ((1 : Nat) : Int) = 1 from rfl] at h0
 rw [h0]
 rfl
/-! ### a list that may be -/
def okAt (l : List Item) (i : Nat) : Prop := (it l i).f1.size ≤ 64 ∧ (0 < i → ky l (i - 1) < ky l i)
def RightP (l : List Item) : Prop := (∀ i, i < l.length → okAt l i) ∧ l.length ≤ 64
theorem right_l0 (l : List Item) (hn : l.length ≤ 100000) (d : Nat) : ∀ i, i + d = l.length → (∀ j, j < i → okAt l j) →
  (RightP l ∧ Ev (fun k => skip_Right.l0 k l l (l.length : Int) (i : Int)) true) ∨ (¬RightP l ∧ Ev (fun k => skip_Right.l0 k l l (l.length : Int) (i : Int)) false) := by
 induction d with
 | zero =>
  intro i hi hp
  obtain rfl : i = l.length := by omega
  by_cases h : l.length ≤ 64
  ·refine .inl ⟨⟨hp, h⟩, Ev.step (fun k => ?_) (Ev.now true)⟩
   rw [skip_Right.l0, if_neg (by omega), decide_eq_true (show (l.length : Int) ≤ 64 by omega)]
  ·refine .inr ⟨fun hr => h hr.2, Ev.step (fun k => ?_) (Ev.now false)⟩
   rw [skip_Right.l0, if_neg (by omega), decide_eq_false (show ¬ (l.length : Int) ≤ 64 by omega)]
 | succ d ih =>
  intro i hi hp
  by_cases hs : (it l i).f1.size ≤ 64
  ·by_cases h0 : i = 0
   ·subst h0
    have hok : okAt l 0 := ⟨hs, fun h => absurd h (by omega)⟩
    have st : ∀ k, skip_Right.l0 (k + 1) l l (l.length : Int) ((0 : Nat) : Int) = skip_Right.l0 k l l (l.length : Int) ((0 + 1 : Nat) : Int) := fun k => by
     rw [skip_Right.l0, if_pos (by omega), if_pos (by omega), if_pos (by omega), if_neg (show ¬ ((((rd_T46 l ((0 : Nat) : Int)).f1).size : Int) > 64) by have := hs; unfold it at this; omega), if_neg (by omega), w_succ 0 l.length (by omega) (by omega)]
    rcases ih 1 (by omega) (fun j hj => by
     obtain rfl : j = 0 := (by omega)
     exact hok) with ⟨h1, h2⟩ | ⟨h1, h2⟩
    ·exact .inl ⟨h1, Ev.step st h2⟩
    ·exact .inr ⟨h1, Ev.step st h2⟩
   ·have ew : wrap64 ((i : Int) - 1) = ((i - 1 : Nat) : Int) := by unfold wrap64; omega
    by_cases hk : ky l (i - 1) < ky l i
    ·have hok : okAt l i := ⟨hs, fun _ => hk⟩
     have st : ∀ k, skip_Right.l0 (k + 1) l l (l.length : Int) (i : Int) = skip_Right.l0 k l l (l.length : Int) ((i + 1 : Nat) : Int) := fun k => by
      rw [skip_Right.l0, if_pos (by omega), if_pos (by omega), if_pos (by omega), if_neg (show ¬ ((((rd_T46 l (i : Int)).f1).size : Int) > 64) by have := hs; unfold it at this; omega), if_pos (by omega), ew, if_pos (by omega), if_pos (by omega),
       if_neg (show ¬ ((rd_T46 l ((i - 1 : Nat) : Int)).f0 ≥ (rd_T46 l (i : Int)).f0) by have := hk; unfold ky it at this; omega), w_succ i l.length (by omega) (by omega)]
     rcases ih (i + 1) (by omega) (fun j hj => by
      by_cases e : j = i
      ·subst e; exact hok
      ·exact hp j (by omega)) with ⟨h1, h2⟩ | ⟨h1, h2⟩
     ·exact .inl ⟨h1, Ev.step st h2⟩
     ·exact .inr ⟨h1, Ev.step st h2⟩
    ·refine .inr ⟨fun hr => hk ((hr.1 i (by omega)).2 (by omega)), Ev.step (fun k => ?_) (Ev.now false)⟩
     rw [skip_Right.l0, if_pos (by omega), if_pos (by omega), if_pos (by omega), if_neg (show ¬ ((((rd_T46 l (i : Int)).f1).size : Int) > 64) by have := hs; unfold it at this; omega), if_pos (by omega), ew, if_pos (by omega), if_pos (by omega),
       if_pos (show ((rd_T46 l ((i - 1 : Nat) : Int)).f0 ≥ (rd_T46 l (i : Int)).f0) by have := hk; unfold ky it at this; omega)]
  ·refine .inr ⟨fun hr => hs (hr.1 i (by omega)).1, Ev.step (fun k => ?_) (Ev.now false)⟩
   rw [skip_Right.l0, if_pos (by omega), if_pos (by omega), if_pos (by omega), if_pos (show ((((rd_T46 l (i : Int)).f1).size : Int) > 64) by have := hs; unfold it at this; omega)]
theorem right_ev (l : List Item) (hn : l.length ≤ 100000) : (RightP l ∧ Ev (fun k => skip_Right.f k l) true) ∨ (¬RightP l ∧ Ev (fun k => skip_Right.f k l) false) :=
 right_l0 l hn l.length 0 (by omega) (fun j hj => absurd hj (by omega))
theorem asc (l : List Item) (n : Nat) (h : ∀ j, j < n → okAt l j) (b : Nat) : ∀ a, a < b → b < n → ky l a < ky l b := by
 induction b with
 | zero => intro a ha; omega
 | succ b ih =>
  intro a ha hb
  have h1 := (h (b + 1) hb).2 (by omega)
  rw [show b + 1 - 1 = b from rfl] at h1
  by_cases e : a = b
  ·subst e; exact h1
  ·have := ih a (by omega) (by omega)
   omega
theorem it_take (l : List Item) (i j : Nat) (h : j < i) (_ : i ≤ l.length) : rd_T46 (l.take i) (j : Int) = it l j := by
 unfold it rd_T46
 rw [Int.toNat_natCast, List.getD_eq_getElem?_getD, List.getD_eq_getElem?_getD, List.getElem?_take, if_pos h]
theorem refright_l1 (l : List Item) (hn : l.length ≤ 100000) (i : Nat) (hi : i < l.length) (x : Int) (v : ByteArray) (e : Nat) : ∀ j, j + e = i →
  ((∀ q, j ≤ q → q < i → ky l q < x) → ∀ r, Ev (fun k => saltusref16_Right.l0 k l l (l.length : Int) ((i + 1 : Nat) : Int)) r → Ev (fun k => saltusref16_Right.l1 k l l (l.length : Int) (i : Int) (l.take i) ((l.take i).length : Int) (j : Int) x v) r) ∧
  ((∃ q, j ≤ q ∧ q < i ∧ ¬ky l q < x) → Ev (fun k => saltusref16_Right.l1 k l l (l.length : Int) (i : Int) (l.take i) ((l.take i).length : Int) (j : Int) x v) false) := by
 have hz : (l.take i).length = i := by rw [List.length_take]; omega
 induction e with
 | zero =>
  intro j hj
  obtain rfl : j = i := by omega
  refine ⟨fun _ r hr => Ev.step (fun k => ?_) hr, fun ⟨q, h1, h2, _⟩ => by omega⟩
  rw [saltusref16_Right.l1, if_neg (by omega), w_succ j l.length hi (by omega)]
 | succ e ih =>
  intro j hj
  obtain ⟨ih1, ih2⟩ := ih (j + 1) (by omega)
  by_cases hk : ky l j < x
  ·have st : ∀ k, saltusref16_Right.l1 (k + 1) l l (l.length : Int) (i : Int) (l.take i) ((l.take i).length : Int) (j : Int) x v = saltusref16_Right.l1 k l l (l.length : Int) (i : Int) (l.take i) ((l.take i).length : Int) ((j + 1 : Nat) : Int) x v := fun k => by
    rw [saltusref16_Right.l1, if_pos (by omega), if_pos (by omega), if_pos (by omega), it_take l i j (by omega) (by omega), if_neg (show ¬ ((it l j).f0 ≥ x) by have := hk; unfold ky at this; omega), w_succ j l.length (by omega) (by omega)]
   refine ⟨fun h r hr => Ev.step st (ih1 (fun q h1 h2 => h q (by omega) h2) r hr), fun ⟨q, h1, h2, h3⟩ => Ev.step st (ih2 ⟨q, ?_, h2, h3⟩)⟩
   by_cases e : q = j
   ·subst e; exact absurd hk h3
   ·omega
  ·refine ⟨fun h => absurd (h j (Nat.le_refl _) (by omega)) hk, fun _ => Ev.step (fun k => ?_) (Ev.now false)⟩
   rw [saltusref16_Right.l1, if_pos (by omega), if_pos (by omega), if_pos (by omega), it_take l i j (by omega) (by omega), if_pos (show ((it l j).f0 ≥ x) by have := hk; unfold ky at this; omega)]
theorem refright_l0 (l : List Item) (hn : l.length ≤ 100000) (d : Nat) : ∀ i, i + d = l.length → (∀ j, j < i → okAt l j) →
  (RightP l ∧ Ev (fun k => saltusref16_Right.l0 k l l (l.length : Int) (i : Int)) true) ∨ (¬RightP l ∧ Ev (fun k => saltusref16_Right.l0 k l l (l.length : Int) (i : Int)) false) := by
 induction d with
 | zero =>
  intro i hi hp
  obtain rfl : i = l.length := by omega
  by_cases h : l.length ≤ 64
  ·refine .inl ⟨⟨hp, h⟩, Ev.step (fun k => ?_) (Ev.now true)⟩
   rw [saltusref16_Right.l0, if_neg (by omega), decide_eq_true (show (l.length : Int) ≤ 64 by omega)]
  ·refine .inr ⟨fun hr => h hr.2, Ev.step (fun k => ?_) (Ev.now false)⟩
   rw [saltusref16_Right.l0, if_neg (by omega), decide_eq_false (show ¬ (l.length : Int) ≤ 64 by omega)]
 | succ d ih =>
  intro i hi hp
  by_cases hs : (it l i).f1.size ≤ 64
  ·have st : ∀ k, saltusref16_Right.l0 (k + 1) l l (l.length : Int) (i : Int) = saltusref16_Right.l1 k l l (l.length : Int) (i : Int) (l.take i) ((l.take i).length : Int) ((0 : Nat) : Int) (ky l i) (it l i).f1 := fun k => by
    rw [saltusref16_Right.l0, if_pos (by omega), if_pos (by omega), if_pos (by omega), if_neg (show ¬ ((((rd_T46 l (i : Int)).f1).size : Int) > 64) by have := hs; unfold it at this; omega), if_pos (by omega), Int.toNat_natCast, Option.bind_some]
    rfl
   obtain ⟨g1, g2⟩ := refright_l1 l hn i (by omega) (ky l i) (it l i).f1 i 0 (by omega)
   by_cases hk : 0 < i → ky l (i - 1) < ky l i
   ·have hok : okAt l i := ⟨hs, hk⟩
    have hp2 : ∀ j, j < i + 1 → okAt l j := fun j hj => by
     by_cases e : j = i
     ·subst e; exact hok
     ·exact hp j (by omega)
    have hall : ∀ q, 0 ≤ q → q < i → ky l q < ky l i := fun q _ hq => asc l (i + 1) hp2 i q hq (by omega)
    rcases ih (i + 1) (by omega) hp2 with ⟨h1, h2⟩ | ⟨h1, h2⟩
    ·exact .inl ⟨h1, Ev.step st (g1 hall true h2)⟩
    ·exact .inr ⟨h1, Ev.step st (g1 hall false h2)⟩
   ·refine .inr ⟨fun hr => hk (hr.1 i (by omega)).2, Ev.step st (g2 ⟨i - 1, by omega, ?_, fun h => hk fun _ => h⟩)⟩
    rcases Nat.eq_zero_or_pos i with e | e
    ·exact absurd (fun h => absurd h (by omega)) hk
    ·omega
  ·refine .inr ⟨fun hr => hs (hr.1 i (by omega)).1, Ev.step (fun k => ?_) (Ev.now false)⟩
   rw [saltusref16_Right.l0, if_pos (by omega), if_pos (by omega), if_pos (by omega), if_pos (show ((((rd_T46 l (i : Int)).f1).size : Int) > 64) by have := hs; unfold it at this; omega)]
theorem refright_ev (l : List Item) (hn : l.length ≤ 100000) : (RightP l ∧ Ev (fun k => saltusref16_Right.f k l) true) ∨ (¬RightP l ∧ Ev (fun k => saltusref16_Right.f k l) false) :=
 refright_l0 l hn l.length 0 (by omega) (fun j hj => absurd hj (by omega))
end Go.Proofs.YtolbhliepkcihaaDoor.SkipPure
end
section
namespace Go.Proofs.YtolbhliepkcihaaDoor.SkipPure
open Go.RowKit Go.Proofs.YtolbhliepkcihaaDoor.Kinds Go.Proofs.YtolbhliepkcihaaDoor.QSF Go.Proofs.YtolbhliepkcihaaDoorW.PrintWords Go.Proofs.YtolbhliepkcihaaDoorW.PrintLast Go.Proofs.YtolbhliepkcihaaDoorW.PrintMore Go.Proofs.YtolbhliepkcihaaDoor.Sha Go.Proofs.YtolbhliepkcihaaDoor.Mac Go.Proofs.YtolbhliepkcihaaDoor.Codec Go.Proofs.YtolbhliepkcihaaDoor.Tower
def htsL (key : ByteArray) (l : List Item) : List Int := l.map fun x => ((heightN key x.f0.toNat : Nat) : Int)
theorem hts_len (key : ByteArray) (l : List Item) : (htsL key l).length = l.length := by unfold htsL; rw [List.length_map]
theorem it_mem (l : List Item) (i : Nat) (h : i < l.length) : it l i = l[i] := by
 unfold it rd_T46
 rw [Int.toNat_natCast, List.getD_eq_getElem?_getD, List.getElem?_eq_getElem h]
 rfl
/-! ### the array of heights is filled -/
/-! ### the next one that is above a level -/
def nxF (h : List Int) (L : Int) : Nat → Nat → Nat
 | 0, i => i
 | d + 1, i => if rd h (i : Int) ≤ L then nxF h L d (i + 1) else i
def nx (h : List Int) (L : Int) (i : Nat) : Nat := nxF h L (h.length - i) i
/-! ### the search -/
def goS (l : List Item) (q : Int) (h : List Int) : Nat → Nat → Nat → List Hop → Nat × List Hop
 | 0, s, _, hops => (s, hops)
 | _ + 1, s, 0, hops => (s, hops)
 | f + 1, s, L + 1, hops => if nx h L s < l.length ∧ ky l (nx h L s) ≤ q then goS l q h f (nx h L s + 1) (L + 1) (hops ++ [⟨(L : Int), ((nx h L s : Nat) : Int)⟩]) else goS l q h f s L hops
def fin (r : Nat × List Hop) : Int × List Hop × Int := if r.1 = 0 then (0, [], 3) else (((r.1 - 1 : Nat) : Int), r.2, 0)
theorem keys_l0 (l : List Item) (hn : l.length ≤ 100000) (d : Nat) : ∀ i acc, i + d = l.length → acc.length + d ≤ 100000 → Ev (fun k => saltusref16_Keys.l0 k acc l (l.length : Int) (i : Int)) (acc ++ (l.drop i).map (·.f0)) := by
 induction d with
 | zero =>
  intro i acc hi ha
  refine Ev.step (fun k => ?_) (Ev.now _)
  rw [saltusref16_Keys.l0, if_neg (by omega), List.drop_eq_nil_of_le (by omega)]
  simp
 | succ d ih =>
  intro i acc hi ha
  have h := ih (i + 1) (acc ++ [(it l i).f0]) (by omega) (by rw [List.length_append, List.length_singleton]; omega)
  rw [List.drop_eq_getElem_cons (show i < l.length by omega), ← it_mem l i (by omega)]
  rw [List.append_assoc] at h
  refine Ev.step (fun k => ?_) h
  rw [saltusref16_Keys.l0, if_pos (by omega), if_pos (by omega), if_pos (by omega), if_pos (by omega), w_succ i l.length (by omega) (by omega)]
  rfl
theorem heights_l0 (key : ByteArray) (hkey : key.size ≤ 1000000000) (l : List Int) (hn : l.length ≤ 100000) (hk : ∀ y, y ∈ l → 0 ≤ y ∧ y ≤ 18446744073709551615) (d : Nat) : ∀ i acc, i + d = l.length → acc.length + d ≤ 100000 →
  Ev (fun k => saltusref15_Heights.l0 k key acc l (l.length : Int) (i : Int)) (acc ++ (l.drop i).map fun y => ((heightN key y.toNat : Nat) : Int)) := by
 induction d with
 | zero =>
  intro i acc hi ha
  refine Ev.step (fun k => ?_) (Ev.now _)
  rw [saltusref15_Heights.l0, if_neg (by omega), List.drop_eq_nil_of_le (by omega)]
  simp
 | succ d ih =>
  intro i acc hi ha
  have hlt : i < l.length := by omega
  have hb := hk l[i] (List.getElem_mem hlt)
  have hrd : rd l (i : Int) = l[i] := by
   unfold rd
   rw [Int.toNat_natCast, List.getD_eq_getElem?_getD, List.getElem?_eq_getElem hlt]
   rfl
  have h := ih (i + 1) (acc ++ [((heightN key (l[i]).toNat : Nat) : Int)]) (by omega) (by rw [List.length_append, List.length_singleton]; omega)
  rw [List.drop_eq_getElem_cons hlt]
  rw [List.append_assoc] at h
  obtain ⟨K, h⟩ := h
  refine ⟨max K 65 + 1, fun k hk2 => ?_⟩
  obtain ⟨k, rfl⟩ : ∃ m, k = m + 1 := ⟨k - 1, by omega⟩
  obtain ⟨n, hn2⟩ := Int.eq_ofNat_of_zero_le hb.1
  have e := refheight_f key n hkey (by omega) k (by omega)
  show saltusref15_Heights.l0 (k + 1) key acc l (l.length : Int) (i : Int) = _
  rw [saltusref15_Heights.l0, if_pos (by omega), if_pos (by omega), if_pos (by omega), hrd, hn2, e, Option.bind_some, if_pos (by omega), w_succ i l.length (by omega) (by omega)]
  have h2 := h k (by omega)
  rw [hn2] at h2
  exact h2
end Go.Proofs.YtolbhliepkcihaaDoor.SkipPure
end
section
namespace Go.Proofs.YtolbhliepkcihaaDoor.SkipPure
open Go.RowKit Go.Proofs.YtolbhliepkcihaaDoor.Kinds Go.Proofs.YtolbhliepkcihaaDoor.QSF Go.Proofs.YtolbhliepkcihaaDoorW.PrintWords Go.Proofs.YtolbhliepkcihaaDoorW.PrintLast Go.Proofs.YtolbhliepkcihaaDoorW.PrintMore Go.Proofs.YtolbhliepkcihaaDoor.Sha Go.Proofs.YtolbhliepkcihaaDoor.Mac Go.Proofs.YtolbhliepkcihaaDoor.Codec Go.Proofs.YtolbhliepkcihaaDoor.Tower
def hp (hops : List Hop) (i : Nat) : Hop := rd_T48 hops (i : Int)
theorem hp_old (hops : List Hop) (z : Hop) (i : Nat) (h : i < hops.length) : hp (hops ++ [z]) i = hp hops i := by
 unfold hp rd_T48
 rw [Int.toNat_natCast, List.getD_eq_getElem?_getD, List.getD_eq_getElem?_getD, List.getElem?_append_left h]
theorem hp_new (hops : List Hop) (z : Hop) : hp (hops ++ [z]) hops.length = z := by
 unfold hp rd_T48
 rw [Int.toNat_natCast, List.getD_eq_getElem?_getD, List.getElem?_append_right (Nat.le_refl _), Nat.sub_self]
 rfl
structure GoodH (s L1 : Nat) (hops : List Hop) : Prop where
 some_ : 0 < s → 0 < hops.length
 none_ : s = 0 → hops = []
 last_ : 0 < hops.length → (hp hops (hops.length - 1)).f1 = (s : Int) - 1
 levels : ∀ i, i < hops.length → 0 ≤ (hp hops i).f0 ∧ (hp hops i).f0 < 8 ∧ (L1 : Int) - 1 ≤ (hp hops i).f0
 chain : ∀ i, 0 < i → i < hops.length → (hp hops (i - 1)).f1 < (hp hops i).f1 ∧ (hp hops i).f0 ≤ (hp hops (i - 1)).f0
theorem GoodH.hop {s L x : Nat} {hops : List Hop} (h : GoodH s (L + 1) hops) (hL : L < 8) (hx : s ≤ x) : GoodH (x + 1) (L + 1) (hops ++ [⟨(L : Int), (x : Int)⟩]) := by
 have hz : (hops ++ [(⟨(L : Int), (x : Int)⟩ : Hop)]).length = hops.length + 1 := by simp
 refine ⟨fun _ => by omega, fun h0 => by omega, fun _ => ?_, fun i hi => ?_, fun i h0 hi => ?_⟩
 ·rw [hz, show hops.length + 1 - 1 = hops.length from rfl, hp_new]
  show (x : Int) = ((x + 1 : Nat) : Int) - 1
  omega
 ·by_cases e : i = hops.length
  ·subst e
   rw [hp_new]
   show 0 ≤ (L : Int) ∧ (L : Int) < 8 ∧ ((L + 1 : Nat) : Int) - 1 ≤ (L : Int)
   omega
  ·rw [hp_old _ _ _ (by omega)]
   exact h.levels i (by omega)
 ·by_cases e : i = hops.length
  ·subst e
   rw [hp_new, hp_old _ _ _ (by omega)]
   have h1 := h.last_ h0
   have h2 := h.levels (hops.length - 1) (by omega)
   show (hp hops (hops.length - 1)).f1 < (x : Int) ∧ (L : Int) ≤ (hp hops (hops.length - 1)).f0
   omega
  ·rw [hp_old _ _ _ (by omega), hp_old _ _ _ (by omega)]
   exact h.chain i h0 (by omega)
/-! ### a known search -/
/-! ### the laws -/
end Go.Proofs.YtolbhliepkcihaaDoor.SkipPure
end
section
namespace Go.Proofs.YtolbhliepkcihaaDoor.QSQ
open Go.RowKit Go.Proofs.YtolbhliepkcihaaDoor.Kinds Go.Proofs.YtolbhliepkcihaaDoorW.PrintWords Go.Proofs.YtolbhliepkcihaaDoorW.PrintLast Go.Proofs.YtolbhliepkcihaaDoorW.PrintMore
attribute [local go_sem] max2_int min2_int max_two min_two max_three min_three max_four min_four   -- for this text's walks alone
set_option linter.unusedVariables false
set_option linter.unusedSimpArgs false
def errW : Option Int → Value
 | none => .nilIface
 | some c => .iface 0 (.int .i64 c)
theorem errW_none : errW none = .nilIface := rfl
theorem errW_some (c : Int) : errW (some c) = .iface 0 (.int .i64 c) := rfl
theorem info46 : (Tryd.prog.info? 46).map (fun i => (i.zero, i.size, i.bytes)) = some (some (.agg #[(.int .u64 0), (.string ⟨#[]⟩)]), 2, 24) := by kernel_rfl
end Go.Proofs.YtolbhliepkcihaaDoor.QSQ
end
section
namespace Go.Proofs.YtolbhliepkcihaaDoor.QSQ
open Go.RowKit Go.Proofs.YtolbhliepkcihaaDoor.Kinds Go.Proofs.YtolbhliepkcihaaDoorW.PrintWords Go.Proofs.YtolbhliepkcihaaDoorW.PrintLast Go.Proofs.YtolbhliepkcihaaDoorW.PrintMore
attribute [local go_sem] max2_int min2_int max_two min_two max_three min_three max_four min_four   -- for this text's walks alone
set_option linter.unusedVariables false
set_option linter.unusedSimpArgs false
/-! ### saltusref16_Put: function 51 -/
end Go.Proofs.YtolbhliepkcihaaDoor.QSQ
end
section
namespace Go.Proofs.YtolbhliepkcihaaDoor.QSQ
open Go.RowKit Go.Proofs.YtolbhliepkcihaaDoor.Kinds Go.Proofs.YtolbhliepkcihaaDoorW.PrintWords Go.Proofs.YtolbhliepkcihaaDoorW.PrintLast Go.Proofs.YtolbhliepkcihaaDoorW.PrintMore
attribute [local go_sem] max2_int min2_int max_two min_two max_three min_three max_four min_four   -- for this text's walks alone
set_option linter.unusedVariables false
set_option linter.unusedSimpArgs false
theorem eqA46 (d : Nat) (w : World) (x0 y0 : Int) (x1 y1 : ByteArray) :
  (Op.equalIn (d + 2) 46 (.agg #[.int .u64 x0, .string x1]) (.agg #[.int .u64 y0, .string y1])).run Tryd.prog w = .ok (x0 == y0 && (x1.toList == y1.toList)) w := by
 refine eqA_of Tryd.underlying46 (by kernel_rfl) ?_
 refine eqf_cons (by rfl) (by go_simp; rfl) (by go_simp; rfl) (by go_simp) ?_
 exact eqf_last (by rfl) (by go_simp; rfl) (by go_simp; rfl) (by go_simp)
end Go.Proofs.YtolbhliepkcihaaDoor.QSQ
end
section
namespace Go.Proofs.YtolbhliepkcihaaDoor.QSQ
open Go.RowKit Go.Proofs.YtolbhliepkcihaaDoor.Kinds Go.Proofs.YtolbhliepkcihaaDoorW.PrintWords Go.Proofs.YtolbhliepkcihaaDoorW.PrintLast Go.Proofs.YtolbhliepkcihaaDoorW.PrintMore
attribute [local go_sem] max2_int min2_int max_two min_two max_three min_three max_four min_four   -- for this text's walks alone
set_option linter.unusedVariables false
set_option linter.unusedSimpArgs false
attribute [local go_sem high] eqA46
/-! ### saltusref16_Same: function 39 -/
def saltusref16_Same.l0 : Nat → List (S46) → List (S46) → Int → Int → Option (Bool)
 | 0, _, _, _, _ => none
 | k + 1, x0, x1, x12, x13 => if x13 < x12 then (if 0 ≤ x13 then (if x13 < (x0.length : Int) then (if x13 < (x1.length : Int) then (if (!(((rd_T46 x0 x13).f0) == ((rd_T46 x1 x13).f0)) || (!((((rd_T46 x0 x13).f1).toList) == (((rd_T46 x1 x13).f1).toList)))) = true then (some false) else (saltusref16_Same.l0 k x0 x1 x12 (wrap64 (x13 + 1)))) else (none)) else (none)) else (none)) else (some true)
def saltusref16_Same.f (k : Nat) (l0 : List (S46)) (l1 : List (S46)) : Option (Bool) := if (l0.length : Int) = (l1.length : Int) then (saltusref16_Same.l0 k l0 l1 (l0.length : Int) 0) else (some false)
theorem saltusref16_Same.mono_l : ∀ k, (∀ y0 y1 y2 y3, LeO (saltusref16_Same.l0 k y0 y1 y2 y3) (saltusref16_Same.l0 (k + 1) y0 y1 y2 y3))
 | 0 => fun _ _ _ _ r h => by simp [saltusref16_Same.l0] at h
 | k + 1 => by
  have ih0 := saltusref16_Same.mono_l k
  ·intro y0 y1 y2 y3
   unfold saltusref16_Same.l0
   repeat' first
   | (with_reducible exact ih0 _ _ _ _)
   | (with_reducible exact LeO.refl _)
   | (with_reducible exact LeO.none _)
   | (with_reducible refine LeO.ite ?_ ?_)
   | (with_reducible refine LeO.bind ?_ (fun _ => ?_))
   | exact ih0 _ _ _ _
   | exact LeO.none _
   | refine LeO.ite ?_ ?_
   | refine LeO.bind ?_ (fun _ => ?_)
theorem saltusref16_Same.mono : ∀ a0 a1 k, LeO (saltusref16_Same.f k a0 a1) (saltusref16_Same.f (k + 1) a0 a1) := by
 intro a0 a1 k
 have ih0 := saltusref16_Same.mono_l k
 unfold saltusref16_Same.f
 repeat' first
   | (with_reducible exact ih0 _ _ _ _)
   | (with_reducible exact LeO.refl _)
   | (with_reducible exact LeO.none _)
   | (with_reducible refine LeO.ite ?_ ?_)
   | (with_reducible refine LeO.bind ?_ (fun _ => ?_))
   | exact ih0 _ _ _ _
   | exact LeO.none _
   | refine LeO.ite ?_ ?_
   | refine LeO.bind ?_ (fun _ => ?_)
set_option maxHeartbeats 8000000 in
set_option maxRecDepth 100000 in
theorem saltusref16_Same.calls (k : Nat) (A0 : Option Addr) (c0 : Nat) (l0 : List (S46)) (A1 : Option Addr) (c1 : Nat) (l1 : List (S46)) (r : Bool) (w : World) (hr0 : Kd.C k46 w A0 l0.length l0) (hc0 : l0.length ≤ c0) (hr1 : Kd.C k46 w A1 l1.length l1) (hc1 : l1.length ≤ c1) (h : saltusref16_Same.f k l0 l1 = some r) :
  Calls Tryd.prog 39 #[.slice A0 l0.length c0, .slice A1 l1.length c1] w fun e w' => e = .returned (.bool r) ∧ Drawn0 w w' := by
 have hu46 := Tryd.underlying46
 have HR0 := Aside0.mk hr0
 have HC0 := Aside0.mk hc0
 clear hr0 hc0
 have HR1 := Aside0.mk hr1
 have HC1 := Aside0.mk hc1
 clear hr1 hc1
 have H : (if (l0.length : Int) = (l1.length : Int) then (saltusref16_Same.l0 k l0 l1 (l0.length : Int) 0) else (some false)) = some r := h
 clear h
 by_cases c3 : (l0.length : Int) = (l1.length : Int)
 ·rw [if_pos c3] at H
  have c3b0 : ((l0.length : Int) == (l1.length : Int)) = true := beq_iff_eq.mpr c3
  have c3b1 : ((l0.length : Int) != (l1.length : Int)) = false := bne_eq_false_iff_eq.mpr c3
  have c3b2 : (l0.length == l1.length) = true := by first | simpa using c3 | (simp at c3 ⊢; omega)
  clear c3
  have H' := Aside0.mk H
  clear H
  go_enter Tryd.func39, Tryd.ntmps39
  go_wp2
  repeat (go_quiet (fail); try go_wp2)
  go_loopg [13] k (fun kq v13 w' => ∃ (x13_1 : Int), v13 = .int .i64 x13_1 ∧ Aside0 (saltusref16_Same.l0 kq l0 l1 (l0.length : Int) x13_1 = some r) ∧ Aside0 (kq ≤ k) ∧ Drawn0 w w')
  case atStart => exact ⟨(0), (by first | rfl | (simp; done) | (simp [*]; done)), H', ⟨Nat.le_refl _⟩, by repeat (first | exact Drawn0.refl _ | apply Drawn0.step)⟩
  case round =>
   clear H'
   try clear c1
   try clear p2
   try clear c3
   try clear c3b0
   try clear c3b1
   try clear c3b2
   obtain ⟨x13_1, rfl, HA, HK1, ⟨m1, rfl⟩⟩ := hrel
   cases gk with
   | zero => exact absurd HA.out (by simp [saltusref16_Same.l0])
   | succ k1 =>
    have H := HA.out
    clear HA
    simp only [saltusref16_Same.l0] at H
    by_cases c4 : x13_1 < (l0.length : Int)
    ·rw [if_pos c4] at H
     have c4b0 : decide (x13_1 < (l0.length : Int)) = true := decide_eq_true c4
     clear c4
     by_cases c5 : 0 ≤ x13_1
     ·rw [if_pos c5] at H
      have c5b0 : decide (0 ≤ x13_1) = true := decide_eq_true c5
      clear c5
      by_cases c6 : x13_1 < (l0.length : Int)
      ·rw [if_pos c6] at H
       have c6b0 : decide (x13_1 < (l0.length : Int)) = true := decide_eq_true c6
       clear c6
       by_cases c7 : x13_1 < (l1.length : Int)
       ·rw [if_pos c7] at H
        have c7b0 : decide (x13_1 < (l1.length : Int)) = true := decide_eq_true c7
        clear c7
        by_cases c8 : (!(((rd_T46 l0 x13_1).f0) == ((rd_T46 l1 x13_1).f0)) || (!((((rd_T46 l0 x13_1).f1).toList) == (((rd_T46 l1 x13_1).f1).toList)))) = true
        ·rw [if_pos c8] at H
         have c8b0 : (!(((rd_T46 l0 x13_1).f0) == ((rd_T46 l1 x13_1).f0)) || (!((((rd_T46 l0 x13_1).f1).toList) == (((rd_T46 l1 x13_1).f1).toList)))) = true := c8
         clear c8
         obtain rfl := Option.some.inj H
         have p101 : 0 ≤ (x13_1 : Int) := of_decide_eq_true (by first | (with_reducible assumption) | assumption)
         have q101 : x13_1 < (l0.length : Int) := of_decide_eq_true (by first | (with_reducible assumption) | assumption)
         obtain ⟨ad101, e101, hx101_0, hx101_1⟩ := at_T46 HR0.out x13_1 p101 q101
         cases e101
         replace p101 := eq_true p101
         replace q101 := eq_true q101
         have p102 : 0 ≤ (x13_1 : Int) := of_decide_eq_true (by first | (with_reducible assumption) | assumption)
         have q102 : x13_1 < (l1.length : Int) := of_decide_eq_true (by first | (with_reducible assumption) | assumption)
         obtain ⟨ad102, e102, hx102_0, hx102_1⟩ := at_T46 HR1.out x13_1 p102 q102
         cases e102
         replace p102 := eq_true p102
         replace q102 := eq_true q102
         go_wp2
         repeat (go_quiet (fail); try go_wp2)
         go_ret
         exact ⟨by first | rfl | (simp; done) | (simp [*]; done), by repeat (first | exact Drawn0.refl _ | apply Drawn0.step)⟩
        ·rw [if_neg c8] at H
         have c8b0 : (!(((rd_T46 l0 x13_1).f0) == ((rd_T46 l1 x13_1).f0)) || (!((((rd_T46 l0 x13_1).f1).toList) == (((rd_T46 l1 x13_1).f1).toList)))) = false := by simpa using c8
         clear c8
         have H' := Aside0.mk H
         clear H
         have p101 : 0 ≤ (x13_1 : Int) := of_decide_eq_true (by first | (with_reducible assumption) | assumption)
         have q101 : x13_1 < (l0.length : Int) := of_decide_eq_true (by first | (with_reducible assumption) | assumption)
         obtain ⟨ad101, e101, hx101_0, hx101_1⟩ := at_T46 HR0.out x13_1 p101 q101
         cases e101
         replace p101 := eq_true p101
         replace q101 := eq_true q101
         have p102 : 0 ≤ (x13_1 : Int) := of_decide_eq_true (by first | (with_reducible assumption) | assumption)
         have q102 : x13_1 < (l1.length : Int) := of_decide_eq_true (by first | (with_reducible assumption) | assumption)
         obtain ⟨ad102, e102, hx102_0, hx102_1⟩ := at_T46 HR1.out x13_1 p102 q102
         cases e102
         replace p102 := eq_true p102
         replace q102 := eq_true q102
         go_wp2
         repeat (go_quiet (fail); try go_wp2)
         go_roundg k1
         case measure => have := HK1.out; omega
         case rel => exact ⟨(wrap64 (x13_1 + 1)), (by first | rfl | (simp; done) | (simp [*]; done)), H', ⟨by have := HK1.out; omega⟩, by repeat (first | exact Drawn0.refl _ | apply Drawn0.step)⟩
       ·rw [if_neg c7] at H
        exact absurd H (by simp)
      ·rw [if_neg c6] at H
       exact absurd H (by simp)
     ·rw [if_neg c5] at H
      exact absurd H (by simp)
    ·rw [if_neg c4] at H
     have c4b0 : decide (x13_1 < (l0.length : Int)) = false := decide_eq_false c4
     clear c4
     obtain rfl := Option.some.inj H
     go_wp2
     repeat (go_quiet (fail); try go_wp2)
     go_ret
     exact ⟨by first | rfl | (simp; done) | (simp [*]; done), by repeat (first | exact Drawn0.refl _ | apply Drawn0.step)⟩
 ·rw [if_neg c3] at H
  have c3b0 : ((l0.length : Int) == (l1.length : Int)) = false := beq_eq_false_iff_ne.mpr c3
  have c3b1 : ((l0.length : Int) != (l1.length : Int)) = true := bne_iff_ne.mpr c3
  have c3b2 : (l0.length == l1.length) = false := by first | simpa using c3 | (simp at c3 ⊢; omega)
  obtain rfl := Option.some.inj H
  go_enter Tryd.func39, Tryd.ntmps39
  go_wp2
  repeat (go_quiet (fail); try go_wp2)
  go_ret
  exact ⟨by first | rfl | (simp; done) | (simp [*]; done), by repeat (first | exact Drawn0.refl _ | apply Drawn0.step)⟩
/-! ### api_Item: function 81 -/
def api_Item.l0 : Nat → List (S46) → List (S46) → Int → Int → Option (Bool)
 | 0, _, _, _, _ => none
 | k + 1, x0, x1, x12, x13 => if x13 < x12 then (if 0 ≤ x13 then (if x13 < (x0.length : Int) then (if x13 < (x1.length : Int) then (if (!(((rd_T46 x0 x13).f0) == ((rd_T46 x1 x13).f0)) || (!((((rd_T46 x0 x13).f1).toList) == (((rd_T46 x1 x13).f1).toList)))) = true then (some false) else (api_Item.l0 k x0 x1 x12 (wrap64 (x13 + 1)))) else (none)) else (none)) else (none)) else (some true)
def api_Item.f (k : Nat) (l0 : List (S46)) (l1 : List (S46)) : Option (Bool) := if (l0.length : Int) = (l1.length : Int) then (api_Item.l0 k l0 l1 (l0.length : Int) 0) else (some false)
theorem api_Item.mono_l : ∀ k, (∀ y0 y1 y2 y3, LeO (api_Item.l0 k y0 y1 y2 y3) (api_Item.l0 (k + 1) y0 y1 y2 y3))
 | 0 => fun _ _ _ _ r h => by simp [api_Item.l0] at h
 | k + 1 => by
  have ih0 := api_Item.mono_l k
  ·intro y0 y1 y2 y3
   unfold api_Item.l0
   repeat' first
   | (with_reducible exact ih0 _ _ _ _)
   | (with_reducible exact LeO.refl _)
   | (with_reducible exact LeO.none _)
   | (with_reducible refine LeO.ite ?_ ?_)
   | (with_reducible refine LeO.bind ?_ (fun _ => ?_))
   | exact ih0 _ _ _ _
   | exact LeO.none _
   | refine LeO.ite ?_ ?_
   | refine LeO.bind ?_ (fun _ => ?_)
theorem api_Item.mono : ∀ a0 a1 k, LeO (api_Item.f k a0 a1) (api_Item.f (k + 1) a0 a1) := by
 intro a0 a1 k
 have ih0 := api_Item.mono_l k
 unfold api_Item.f
 repeat' first
   | (with_reducible exact ih0 _ _ _ _)
   | (with_reducible exact LeO.refl _)
   | (with_reducible exact LeO.none _)
   | (with_reducible refine LeO.ite ?_ ?_)
   | (with_reducible refine LeO.bind ?_ (fun _ => ?_))
   | exact ih0 _ _ _ _
   | exact LeO.none _
   | refine LeO.ite ?_ ?_
   | refine LeO.bind ?_ (fun _ => ?_)
set_option maxHeartbeats 8000000 in
set_option maxRecDepth 100000 in
theorem api_Item.calls (k : Nat) (A0 : Option Addr) (c0 : Nat) (l0 : List (S46)) (A1 : Option Addr) (c1 : Nat) (l1 : List (S46)) (r : Bool) (w : World) (hr0 : Kd.C k46 w A0 l0.length l0) (hc0 : l0.length ≤ c0) (hr1 : Kd.C k46 w A1 l1.length l1) (hc1 : l1.length ≤ c1) (h : api_Item.f k l0 l1 = some r) :
  Calls Tryd.prog 81 #[.slice A0 l0.length c0, .slice A1 l1.length c1] w fun e w' => e = .returned (.bool r) ∧ Drawn0 w w' := by
 have hu46 := Tryd.underlying46
 have HR0 := Aside0.mk hr0
 have HC0 := Aside0.mk hc0
 clear hr0 hc0
 have HR1 := Aside0.mk hr1
 have HC1 := Aside0.mk hc1
 clear hr1 hc1
 have H : (if (l0.length : Int) = (l1.length : Int) then (api_Item.l0 k l0 l1 (l0.length : Int) 0) else (some false)) = some r := h
 clear h
 by_cases c3 : (l0.length : Int) = (l1.length : Int)
 ·rw [if_pos c3] at H
  have c3b0 : ((l0.length : Int) == (l1.length : Int)) = true := beq_iff_eq.mpr c3
  have c3b1 : ((l0.length : Int) != (l1.length : Int)) = false := bne_eq_false_iff_eq.mpr c3
  have c3b2 : (l0.length == l1.length) = true := by first | simpa using c3 | (simp at c3 ⊢; omega)
  clear c3
  have H' := Aside0.mk H
  clear H
  go_enter Tryd.func81, Tryd.ntmps81
  go_wp2
  repeat (go_quiet (fail); try go_wp2)
  go_loopg [13] k (fun kq v13 w' => ∃ (x13_1 : Int), v13 = .int .i64 x13_1 ∧ Aside0 (api_Item.l0 kq l0 l1 (l0.length : Int) x13_1 = some r) ∧ Aside0 (kq ≤ k) ∧ Drawn0 w w')
  case atStart => exact ⟨(0), (by first | rfl | (simp; done) | (simp [*]; done)), H', ⟨Nat.le_refl _⟩, by repeat (first | exact Drawn0.refl _ | apply Drawn0.step)⟩
  case round =>
   clear H'
   try clear c1
   try clear p2
   try clear c3
   try clear c3b0
   try clear c3b1
   try clear c3b2
   obtain ⟨x13_1, rfl, HA, HK1, ⟨m1, rfl⟩⟩ := hrel
   cases gk with
   | zero => exact absurd HA.out (by simp [api_Item.l0])
   | succ k1 =>
    have H := HA.out
    clear HA
    simp only [api_Item.l0] at H
    by_cases c4 : x13_1 < (l0.length : Int)
    ·rw [if_pos c4] at H
     have c4b0 : decide (x13_1 < (l0.length : Int)) = true := decide_eq_true c4
     clear c4
     by_cases c5 : 0 ≤ x13_1
     ·rw [if_pos c5] at H
      have c5b0 : decide (0 ≤ x13_1) = true := decide_eq_true c5
      clear c5
      by_cases c6 : x13_1 < (l0.length : Int)
      ·rw [if_pos c6] at H
       have c6b0 : decide (x13_1 < (l0.length : Int)) = true := decide_eq_true c6
       clear c6
       by_cases c7 : x13_1 < (l1.length : Int)
       ·rw [if_pos c7] at H
        have c7b0 : decide (x13_1 < (l1.length : Int)) = true := decide_eq_true c7
        clear c7
        by_cases c8 : (!(((rd_T46 l0 x13_1).f0) == ((rd_T46 l1 x13_1).f0)) || (!((((rd_T46 l0 x13_1).f1).toList) == (((rd_T46 l1 x13_1).f1).toList)))) = true
        ·rw [if_pos c8] at H
         have c8b0 : (!(((rd_T46 l0 x13_1).f0) == ((rd_T46 l1 x13_1).f0)) || (!((((rd_T46 l0 x13_1).f1).toList) == (((rd_T46 l1 x13_1).f1).toList)))) = true := c8
         clear c8
         obtain rfl := Option.some.inj H
         have p103 : 0 ≤ (x13_1 : Int) := of_decide_eq_true (by first | (with_reducible assumption) | assumption)
         have q103 : x13_1 < (l0.length : Int) := of_decide_eq_true (by first | (with_reducible assumption) | assumption)
         obtain ⟨ad103, e103, hx103_0, hx103_1⟩ := at_T46 HR0.out x13_1 p103 q103
         cases e103
         replace p103 := eq_true p103
         replace q103 := eq_true q103
         have p104 : 0 ≤ (x13_1 : Int) := of_decide_eq_true (by first | (with_reducible assumption) | assumption)
         have q104 : x13_1 < (l1.length : Int) := of_decide_eq_true (by first | (with_reducible assumption) | assumption)
         obtain ⟨ad104, e104, hx104_0, hx104_1⟩ := at_T46 HR1.out x13_1 p104 q104
         cases e104
         replace p104 := eq_true p104
         replace q104 := eq_true q104
         go_wp2
         repeat (go_quiet (fail); try go_wp2)
         go_ret
         exact ⟨by first | rfl | (simp; done) | (simp [*]; done), by repeat (first | exact Drawn0.refl _ | apply Drawn0.step)⟩
        ·rw [if_neg c8] at H
         have c8b0 : (!(((rd_T46 l0 x13_1).f0) == ((rd_T46 l1 x13_1).f0)) || (!((((rd_T46 l0 x13_1).f1).toList) == (((rd_T46 l1 x13_1).f1).toList)))) = false := by simpa using c8
         clear c8
         have H' := Aside0.mk H
         clear H
         have p103 : 0 ≤ (x13_1 : Int) := of_decide_eq_true (by first | (with_reducible assumption) | assumption)
         have q103 : x13_1 < (l0.length : Int) := of_decide_eq_true (by first | (with_reducible assumption) | assumption)
         obtain ⟨ad103, e103, hx103_0, hx103_1⟩ := at_T46 HR0.out x13_1 p103 q103
         cases e103
         replace p103 := eq_true p103
         replace q103 := eq_true q103
         have p104 : 0 ≤ (x13_1 : Int) := of_decide_eq_true (by first | (with_reducible assumption) | assumption)
         have q104 : x13_1 < (l1.length : Int) := of_decide_eq_true (by first | (with_reducible assumption) | assumption)
         obtain ⟨ad104, e104, hx104_0, hx104_1⟩ := at_T46 HR1.out x13_1 p104 q104
         cases e104
         replace p104 := eq_true p104
         replace q104 := eq_true q104
         go_wp2
         repeat (go_quiet (fail); try go_wp2)
         go_roundg k1
         case measure => have := HK1.out; omega
         case rel => exact ⟨(wrap64 (x13_1 + 1)), (by first | rfl | (simp; done) | (simp [*]; done)), H', ⟨by have := HK1.out; omega⟩, by repeat (first | exact Drawn0.refl _ | apply Drawn0.step)⟩
       ·rw [if_neg c7] at H
        exact absurd H (by simp)
      ·rw [if_neg c6] at H
       exact absurd H (by simp)
     ·rw [if_neg c5] at H
      exact absurd H (by simp)
    ·rw [if_neg c4] at H
     have c4b0 : decide (x13_1 < (l0.length : Int)) = false := decide_eq_false c4
     clear c4
     obtain rfl := Option.some.inj H
     go_wp2
     repeat (go_quiet (fail); try go_wp2)
     go_ret
     exact ⟨by first | rfl | (simp; done) | (simp [*]; done), by repeat (first | exact Drawn0.refl _ | apply Drawn0.step)⟩
 ·rw [if_neg c3] at H
  have c3b0 : ((l0.length : Int) == (l1.length : Int)) = false := beq_eq_false_iff_ne.mpr c3
  have c3b1 : ((l0.length : Int) != (l1.length : Int)) = true := bne_iff_ne.mpr c3
  have c3b2 : (l0.length == l1.length) = false := by first | simpa using c3 | (simp at c3 ⊢; omega)
  obtain rfl := Option.some.inj H
  go_enter Tryd.func81, Tryd.ntmps81
  go_wp2
  repeat (go_quiet (fail); try go_wp2)
  go_ret
  exact ⟨by first | rfl | (simp; done) | (simp [*]; done), by repeat (first | exact Drawn0.refl _ | apply Drawn0.step)⟩
/-! ### skip_Like: function 48 -/
/-! ### saltusref16_At: function 49 -/
/-! ### saltusref16_Drop: function 50 -/
end Go.Proofs.YtolbhliepkcihaaDoor.QSQ
end
section
namespace Go.Proofs.YtolbhliepkcihaaDoor.SkipOps
open Go.RowKit Go.Proofs.YtolbhliepkcihaaDoor.Kinds Go.Proofs.YtolbhliepkcihaaDoor.QSF Go.Proofs.YtolbhliepkcihaaDoorW.PrintWords Go.Proofs.YtolbhliepkcihaaDoorW.PrintLast Go.Proofs.YtolbhliepkcihaaDoorW.PrintMore Go.Proofs.YtolbhliepkcihaaDoor.Sha Go.Proofs.YtolbhliepkcihaaDoor.Mac Go.Proofs.YtolbhliepkcihaaDoor.Codec Go.Proofs.YtolbhliepkcihaaDoor.Tower Go.Proofs.YtolbhliepkcihaaDoor.Skip Go.Proofs.YtolbhliepkcihaaDoor.SkipPure
abbrev It := S46
/-! ### where the search by halves ends -/
/-! ### put and drop -/
end Go.Proofs.YtolbhliepkcihaaDoor.SkipOps
end
section
namespace Go.Proofs.YtolbhliepkcihaaDoor.SkipOps
open Go.RowKit Go.Proofs.YtolbhliepkcihaaDoor.Kinds Go.Proofs.YtolbhliepkcihaaDoor.QSF Go.Proofs.YtolbhliepkcihaaDoor.QSQ Go.Proofs.YtolbhliepkcihaaDoorW.PrintWords Go.Proofs.YtolbhliepkcihaaDoorW.PrintLast Go.Proofs.YtolbhliepkcihaaDoorW.PrintMore Go.Proofs.YtolbhliepkcihaaDoor.Sha Go.Proofs.YtolbhliepkcihaaDoor.Mac Go.Proofs.YtolbhliepkcihaaDoor.Codec Go.Proofs.YtolbhliepkcihaaDoor.Tower Go.Proofs.YtolbhliepkcihaaDoor.Skip Go.Proofs.YtolbhliepkcihaaDoor.SkipPure
theorem same_l0 (a b : List It) (hn : a.length ≤ 100000) (hb : b.length = a.length) (d : Nat) : ∀ i, i + d = a.length →
  ∃ r, Ev (fun k => saltusref16_Same.l0 k a b (a.length : Int) (i : Int)) r ∧ Ev (fun k => api_Item.l0 k a b (a.length : Int) (i : Int)) r ∧ (a = b → r = true) := by
 induction d with
 | zero =>
  intro i hi
  refine ⟨true, Ev.step (fun k => ?_) (Ev.now _), Ev.step (fun k => ?_) (Ev.now _), fun _ => rfl⟩
  ·rw [saltusref16_Same.l0, if_neg (by omega)]
  ·rw [api_Item.l0, if_neg (by omega)]
 | succ d ih =>
  intro i hi
  by_cases c : (!(((rd_T46 a (i : Int)).f0) == ((rd_T46 b (i : Int)).f0)) || (!((((rd_T46 a (i : Int)).f1).toList) == (((rd_T46 b (i : Int)).f1).toList)))) = true
  ·refine ⟨false, Ev.step (fun k => ?_) (Ev.now _), Ev.step (fun k => ?_) (Ev.now _), fun e => ?_⟩
   ·rw [saltusref16_Same.l0, if_pos (by omega), if_pos (by omega), if_pos (by omega), if_pos (by omega), if_pos c]
   ·rw [api_Item.l0, if_pos (by omega), if_pos (by omega), if_pos (by omega), if_pos (by omega), if_pos c]
   ·subst e
    rw [beq_self_eq_true, beq_self_eq_true] at c
    cases c
  ·obtain ⟨r, h1, h2, h3⟩ := ih (i + 1) (by omega)
   refine ⟨r, Ev.step (fun k => ?_) h1, Ev.step (fun k => ?_) h2, h3⟩
   ·rw [saltusref16_Same.l0, if_pos (by omega), if_pos (by omega), if_pos (by omega), if_pos (by omega), if_neg c, w_succ i a.length (by omega) (by omega)]
   ·rw [api_Item.l0, if_pos (by omega), if_pos (by omega), if_pos (by omega), if_pos (by omega), if_neg c, w_succ i a.length (by omega) (by omega)]
/-! ### the callees, at plain functions -/
theorem c_right (A : Option Addr) (c : Nat) (l : List It) (hn : l.length ≤ 100000) : ∃ r, (r = true ↔ RightP l) ∧
  (∀ w, Kd.C k46 w A l.length l → l.length ≤ c → Calls Tryd.prog 38 #[.slice A l.length c] w fun e w' => e = .returned (.bool r) ∧ Below w.heap.size w w') ∧
  (∀ w, Kd.C k46 w A l.length l → l.length ≤ c → Calls Tryd.prog 25 #[.slice A l.length c] w fun e w' => e = .returned (.bool r) ∧ Below w.heap.size w w') := by
 rcases right_ev l hn with ⟨p1, h1⟩ | ⟨p1, h1⟩
 ·rcases refright_ev l hn with ⟨p2, h2⟩ | ⟨p2, h2⟩
  ·obtain ⟨k1, e1⟩ := h1.rounds
   obtain ⟨k2, e2⟩ := h2.rounds
   exact ⟨true, ⟨fun _ => p1, fun _ => rfl⟩, fun w q1 q2 => skip_Right.calls k1 A c l true w q1 q2 e1, fun w q1 q2 => saltusref16_Right.calls k2 A c l true w q1 q2 e2⟩
  ·exact absurd p1 p2
 ·rcases refright_ev l hn with ⟨p2, h2⟩ | ⟨p2, h2⟩
  ·exact absurd p2 p1
  ·obtain ⟨k1, e1⟩ := h1.rounds
   obtain ⟨k2, e2⟩ := h2.rounds
   exact ⟨false, ⟨(fun h => by cases h), fun h => absurd h p1⟩, fun w q1 q2 => skip_Right.calls k1 A c l false w q1 q2 e1, fun w q1 q2 => saltusref16_Right.calls k2 A c l false w q1 q2 e2⟩
end Go.Proofs.YtolbhliepkcihaaDoor.SkipOps
end
section
namespace Go.Proofs.YtolbhliepkcihaaDoor.Lab
open Go.RowKit Go.Proofs.YtolbhliepkcihaaDoorW.PrintWords Go.Proofs.YtolbhliepkcihaaDoor.Kinds Go.Proofs.YtolbhliepkcihaaDoor.Build Go.Proofs.YtolbhliepkcihaaDoor.Sha Go.Proofs.YtolbhliepkcihaaDoor.Mac Go.Proofs.YtolbhliepkcihaaDoor.Codec Go.Proofs.YtolbhliepkcihaaDoor.Tower Go.Proofs.YtolbhliepkcihaaDoor.Mem Go.Proofs.YtolbhliepkcihaaDoor.SkipOps Go.Proofs.YtolbhliepkcihaaDoor.SkipPure
theorem Row_bad (key : ByteArray) (A0 : Option Addr) (c0 : Nat) (l : List S46) (lv : Int) (w : World) (hr0 : Kd.C k46 w A0 l.length l) (hc0 : l.length ≤ c0) (hl : l.length ≤ 1000) (hb : ¬RightP l) :
  Calls Tryd.prog 30 #[.string key, .slice A0 l.length c0, .int .i64 lv] w fun e w' => e = .returned (.tuple #[.slice none 0 0, .int .i64 1]) ∧ Below w.heap.size w w' := by
 obtain ⟨r, hr, hA, _⟩ := c_right A0 c0 l (by omega)
 obtain rfl : r = false := by
  cases r
  ·rfl
  ·exact absurd (hr.1 rfl) hb
 have HA := Lib.hid (hA w hr0 hc0)
 clear hr hA
 go_enter Tryd.func30, Tryd.ntmps30
 go_wp2_with (go_at_call 38; refine (HA.out).mono ?_; rintro e w1 ⟨rfl, hb1⟩)
 go_ret2
 exact ⟨rfl, hb1⟩
theorem Root_bad (key : ByteArray) (A0 : Option Addr) (c0 : Nat) (l : List S46) (w : World) (hr0 : Kd.C k46 w A0 l.length l) (hc0 : l.length ≤ c0) (hl : l.length ≤ 1000) (hb : ¬RightP l) :
  Calls Tryd.prog 31 #[.string key, .slice A0 l.length c0] w fun e w' => e = .returned (.tuple #[.string ⟨#[]⟩, .int .i64 1]) ∧ Below w.heap.size w w' := by
 obtain ⟨r, hr, hA, _⟩ := c_right A0 c0 l (by omega)
 obtain rfl : r = false := by
  cases r
  ·rfl
  ·exact absurd (hr.1 rfl) hb
 have HA := Lib.hid (hA w hr0 hc0)
 clear hr hA
 go_enter Tryd.func31, Tryd.ntmps31
 go_wp2_with (go_at_call 38; refine (HA.out).mono ?_; rintro e w1 ⟨rfl, hb1⟩)
 go_ret2
 exact ⟨rfl, hb1⟩
theorem Row_range (key : ByteArray) (A0 : Option Addr) (c0 : Nat) (l : List S46) (lv : Int) (w : World) (hr0 : Kd.C k46 w A0 l.length l) (hc0 : l.length ≤ c0) (hl : l.length ≤ 1000) (hb : RightP l) (hlv : lv < 0 ∨ 8 < lv) :
  Calls Tryd.prog 30 #[.string key, .slice A0 l.length c0, .int .i64 lv] w fun e w' => e = .returned (.tuple #[.slice none 0 0, .int .i64 2]) ∧ Below w.heap.size w w' := by
 obtain ⟨r, hr, hA, _⟩ := c_right A0 c0 l (by omega)
 obtain rfl := hr.2 hb
 have HA := Lib.hid (hA w hr0 hc0)
 clear hr hA
 by_cases g : lv < 0
 ·have d1 : decide (lv < 0) = true := decide_eq_true g
  go_enter Tryd.func30, Tryd.ntmps30
  go_wp2_with (go_at_call 38; refine (HA.out).mono ?_; rintro e w1 ⟨rfl, hb1⟩)
  go_ret2
  exact ⟨rfl, hb1⟩
 ·have d1 : decide (lv < 0) = false := decide_eq_false g
  have d2 : decide ((8 : Int) < lv) = true := decide_eq_true (by omega)
  go_enter Tryd.func30, Tryd.ntmps30
  go_wp2_with (go_at_call 38; refine (HA.out).mono ?_; rintro e w1 ⟨rfl, hb1⟩)
  go_ret2
  exact ⟨rfl, hb1⟩
theorem Row_ok (key : ByteArray) (A0 : Option Addr) (c0 : Nat) (l : List S46) (lv : Nat) (w : World) (hr0 : Kd.C k46 w A0 l.length l) (hc0 : l.length ≤ c0) (hl : l.length ≤ 1000) (hkey : key.size ≤ 1000000000) (hok : ∀ x, x ∈ l → x.f1.size ≤ 4096 ∧ 0 ≤ x.f0 ∧ x.f0 < 18446744073709551616) (hlv : lv ≤ 8) (hT : TabW w) (hb : RightP l) :
  Calls Tryd.prog 30 #[.string key, .slice A0 l.length c0, .int .i64 (lv : Int)] w fun e w' => ∃ v, e = .returned (.tuple #[v, .int .i64 0]) ∧ w'.ownsRow w.heap.size 9 1 v (rowL key l lv).length (strV (rowL key l lv)) ∧ Below w.heap.size w w' := by
 obtain ⟨r, hr, hA, _⟩ := c_right A0 c0 l (by omega)
 obtain rfl := hr.2 hb
 have HA := Lib.hid (hA w hr0 hc0)
 have HR := Lib.hid (fun W (h : Below w.heap.size w W) => row_walk key A0 c0 l lv W (Kd.C_below hr0 h) hl hkey hok hlv (tab_below hT h (Nat.le_refl _)))
 clear hr hA hr0 hok hT hb
 have d1 : decide ((lv : Int) < 0) = false := decide_eq_false (by omega)
 have d2 : decide ((8 : Int) < (lv : Int)) = false := decide_eq_false (by omega)
 go_enter Tryd.func30, Tryd.ntmps30
 go_wp2_with (first | (go_at_call 38; refine (HA.out).mono ?_; rintro e w1 ⟨rfl, hb1⟩) | (go_at_call 68; refine (HR.out _ hb1).mono ?_; rintro e w2 ⟨v, rfl, ho, hb2⟩; have HS := hb1.size; have ho' := Aside0.mk (own_le ho HS); have hb' := Aside0.mk (below_step hb1 hb2); clear ho hb2 HS))
 go_ret2
 exact ⟨_, rfl, ho'.out, hb'.out⟩
theorem rootL_row (key : ByteArray) (l : List S46) : rowL key l 8 = [rootL key l] := by
 have h : ∀ s : List S46, rowF (lab 8) 8 (s.map (ent key)) = [] := fun s => by
  induction s with
  | nil => rfl
  | cons x r ih =>
   have := height_hi key x.f0.toNat
   rw [List.map_cons, rowF, if_neg (by show ¬8 < heightN key x.f0.toNat; omega), ih]
 unfold rowL ents rootL
 rw [rowF, if_pos (by decide), h]
 rfl
theorem Root_ok (key : ByteArray) (A0 : Option Addr) (c0 : Nat) (l : List S46) (w : World) (hr0 : Kd.C k46 w A0 l.length l) (hc0 : l.length ≤ c0) (hl : l.length ≤ 1000) (hkey : key.size ≤ 1000000000) (hok : ∀ x, x ∈ l → x.f1.size ≤ 4096 ∧ 0 ≤ x.f0 ∧ x.f0 < 18446744073709551616) (hT : TabW w) (hb : RightP l) :
  Calls Tryd.prog 31 #[.string key, .slice A0 l.length c0] w fun e w' => e = .returned (.tuple #[.string (rootL key l), .int .i64 0]) ∧ Below w.heap.size w w' := by
 obtain ⟨r, hr, hA, _⟩ := c_right A0 c0 l (by omega)
 obtain rfl := hr.2 hb
 have HA := Lib.hid (hA w hr0 hc0)
 have HR := Lib.hid (fun W (h : Below w.heap.size w W) => row_walk key A0 c0 l 8 W (Kd.C_below hr0 h) hl hkey hok (by decide) (tab_below hT h (Nat.le_refl _)))
 rw [rootL_row] at HR
 clear hr hA hr0 hok hT hb
 generalize rootL key l = y at *
 go_enter Tryd.func31, Tryd.ntmps31
 go_wp2_with (first | (go_at_call 38; refine (HA.out).mono ?_; rintro e w1 ⟨rfl, hb1⟩) | (go_at_call 68; refine (HR.out _ hb1).mono ?_; rintro e w2 ⟨v, rfl, ho, hb2⟩; obtain ⟨g, cp, rfl, _⟩ := own_succ3 (k := 0) ho; have hcc : w2.cell? ⟨g, 0, none⟩ = some (.string y) := ho.cellAt 0 (by decide); have hb' := Aside0.mk (below_step hb1 hb2); clear ho hb2))
 go_ret2
 exact ⟨rfl, hb'.out⟩
end Go.Proofs.YtolbhliepkcihaaDoor.Lab
end
section
namespace Go.Proofs.YtolbhliepkcihaaDoor.Lab
open Go.RowKit Go.Proofs.YtolbhliepkcihaaDoorW.PrintWords Go.Proofs.YtolbhliepkcihaaDoor.Kinds Go.Proofs.YtolbhliepkcihaaDoor.Build Go.Proofs.YtolbhliepkcihaaDoor.Sha Go.Proofs.YtolbhliepkcihaaDoor.Mac Go.Proofs.YtolbhliepkcihaaDoor.Codec Go.Proofs.YtolbhliepkcihaaDoor.Tower Go.Proofs.YtolbhliepkcihaaDoor.Mem Go.Proofs.YtolbhliepkcihaaDoor.SkipOps Go.Proofs.YtolbhliepkcihaaDoor.SkipPure
def okL (l : List S46) : Prop := ∀ x, x ∈ l → x.f1.size ≤ 4096 ∧ 0 ≤ x.f0 ∧ x.f0 < 18446744073709551616
theorem keys_ev (l : List S46) (hn : l.length ≤ 50000) : Ev (fun k => QSF.saltusref16_Keys.f k l) (l.map (·.f0)) := by
 have h1 := keys_l0 l (by omega) l.length 0 [] (by omega) (by simp; omega)
 simp only [List.nil_append, List.drop_zero] at h1
 exact h1
theorem heights_ev (key : ByteArray) (hkey : key.size ≤ 1000000000) (l : List S46) (hn : l.length ≤ 50000) (hok : okL l) : Ev (fun k => QSF.saltusref15_Heights.f k key (l.map (·.f0))) (htsL key l) := by
 have h2 := heights_l0 key hkey (l.map (·.f0)) (by rw [List.length_map]; omega) (fun y hy => by
  obtain ⟨z, hz, rfl⟩ := List.mem_map.1 hy
  have := hok z hz
  omega) (l.map (·.f0)).length 0 [] (by omega) (by simp; omega)
 simp only [List.nil_append, List.drop_zero, List.map_map] at h2
 exact h2
theorem okT_of (key : ByteArray) (l : List S46) (hn : l.length ≤ 1000) (hok : okL l) : okT l (htsL key l) = true := by
 unfold okT okIt okHt htsL
 simp only [Bool.and_eq_true, List.all_eq_true, decide_eq_true_eq, List.length_map]
 refine ⟨⟨⟨fun x hx => ?_, fun x hx => ?_⟩, trivial⟩, by omega⟩
 ·have := hok x hx
  exact ⟨⟨this.1, this.2.1⟩, this.2.2⟩
 ·obtain ⟨y, _, rfl⟩ := List.mem_map.1 hx
  have := height_hi key y.f0.toNat
  omega
theorem esOf_hts (key : ByteArray) : ∀ l : List S46, esOf l (htsL key l) = l.map (ent key)
 | [] => rfl
 | x :: r => by
  have ih := esOf_hts key r
  have e : esOf (x :: r) (htsL key (x :: r)) = ⟨((heightN key x.f0.toNat : Nat) : Int).toNat, itemT x⟩ :: esOf r (htsL key r) := by
   unfold esOf htsL
   rw [List.map_cons, List.zipWith_cons_cons]
  rw [e, ih, Int.toNat_natCast, List.map_cons]
  unfold ent
  exact List.cons_eq_cons.2 ⟨rfl, rfl⟩
theorem suf_at (key : ByteArray) (l : List S46) (a : Int) : sufT l (htsL key l) a = (ents key l).drop (a + 1).toNat := by
 unfold sufT ents
 rw [esOf_hts]
theorem of_at (key : ByteArray) (l : List S46) (hn : l.length ≤ 1000) (hok : okL l) (a : Int) (h1 : -1 ≤ a) (h2 : a < (l.length : Int)) (lv : Nat) (hlv : lv ≤ 8) :
  saltusref17_Of.f l (htsL key l) a (lv : Int) = some (lab lv ((ents key l).drop (a + 1).toNat)) := by
 unfold saltusref17_Of.f
 rw [if_pos ⟨okT_of key l hn hok, h1, h2, by omega, by omega⟩, suf_at, Int.toNat_natCast]
theorem set_grown_at (w : World) (b i : Nat) (u : Value) : w.grownBy (w.setCell ⟨b, i, none⟩ u) (some b) :=
 ⟨rfl, rfl, rfl, by simp, fun k _ hk => heap_setCell_other w ⟨b, i, none⟩ k u (fun e => hk (by simp [e]))⟩
set_option maxHeartbeats 2000000 in
set_option maxRecDepth 100000 in
theorem list_walk (key : ByteArray) (A0 : Option Addr) (c0 : Nat) (l : List S46) (w : World) (hr0 : Kd.C k46 w A0 l.length l) (hc0 : l.length ≤ c0) (hl : l.length ≤ 1000) (hkey : key.size ≤ 1000000000) (hok : okL l) :
  Calls Tryd.prog 70 #[.string key, .slice A0 l.length c0] w fun e w' => ∃ A2 c2, e = .returned (.agg #[.slice A0 l.length c0, .slice A2 l.length c2]) ∧ Kd.C (Kd.int .i64) w' A2 l.length (htsL key l) ∧ l.length ≤ c2 ∧ w'.ownsRow w.heap.size 3 1 (.slice A2 l.length c2) l.length (intV (htsL key l)) ∧ Below w.heap.size w w' := by
 obtain ⟨k1, e1⟩ := (keys_ev l (by omega)).rounds
 obtain ⟨k2, e2⟩ := (heights_ev key hkey l (by omega) hok).rounds
 have HK := Lib.hid (fun W (h : Below w.heap.size w W) => QSF.saltusref16_Keys.calls k1 A0 c0 l _ W (Kd.C_below hr0 h) hc0 e1)
 have HH := Lib.hid (fun A c W h h2 => QSF.saltusref15_Heights.calls k2 key A c (l.map (·.f0)) _ W h h2 e2)
 have hlen : (l.map (·.f0)).length = l.length := List.length_map _
 have hlen2 : (htsL key l).length = l.length := by unfold htsL; exact List.length_map _
 clear e1 e2 hr0 hok hkey
 go_enter Tryd.func70, Tryd.ntmps70
 generalize l.map (·.f0) = ks at *
 generalize htsL key l = hs at *
 rw [hlen] at HH
 go_upto_region 1 with (fail)
 have N := Aside0.mk (Blk.new w 101 #[.slice none 0 0, .slice none 0 0])
 have HB := Aside0.mk (Below.alloc (Below.refl w.heap.size w) (Nat.le_refl _) (.cells #[.slice none 0 0, .slice none 0 0] 101))
 obtain ⟨g, hg⟩ : ∃ g, w.heap.size = g := ⟨_, rfl⟩
 rw [hg] at N
 have HK2 := Lib.hid (HK.out _ HB.out)
 clear HK
 generalize w.alloc (.cells #[.slice none 0 0, .slice none 0 0] 101) = w0 at *
 rw [hg]
 go_wp2_with fail
 refine (HK2.out).mono ?_
 rintro e w1 ⟨v1, rfl, hr1, hb1⟩
 obtain ⟨A1, c1, rfl⟩ := Kd.R_slice hr1
 have q1 := Aside0.mk (Kd.R_reads' hr1)
 replace N := Aside0.mk (N.out.below hb1 N.out.lt)
 replace HB := Aside0.mk (below_step HB.out hb1)
 have hw1 := HB.out.size
 clear hr1 hb1 HK2
 go_wp2_with fail
 have q1c : Kd.C (Kd.int .u64) w1 A1 l.length ks := by rw [← hlen]; exact q1.out.2.2
 have q1d : l.length ≤ c1 := by rw [← hlen]; exact q1.out.2.1
 refine (HH.out A1 c1 w1 q1c q1d).mono ?_
 rintro e w2 ⟨v2, rfl, hr2, hb2⟩
 obtain ⟨A2, c2, rfl⟩ := Kd.R_slice hr2
 have q2 := Aside0.mk (Kd.R_reads' hr2)
 replace N := Aside0.mk (N.out.below hb2 N.out.lt)
 replace HB := Aside0.mk (below_step HB.out hb2)
 have hc0' := N.out.cell 0
 have hc1' := N.out.cell 1
 have hf0' := N.out.frozen 0
 have hf1' := N.out.frozen 1
 clear hb2 HH q1 q1c
 go_wp2_with fail
 have ho := own_le (Kd.own_of_R hr2) hw1
 have h1 : w.heap.size ≤ g := Nat.le_of_eq hg
 have n1 := own_ne ho N.out (by decide)
 have ho1 := ho.kept (set_grown_at w2 g 0 (.slice A0 l.length c0)) (.inr n1)
 have N1 := N.out.set_ 0 (.slice A0 l.length c0)
 have ho2 := ho1.kept (set_grown_at _ g 1 (.slice A2 l.length c2)) (.inr n1)
 have N2 := N1.set_ 1 (.slice A2 l.length c2)
 have HB2 := (HB.out.setCell (p := ⟨g, 0, none⟩) h1 (.slice A0 l.length c0)).setCell (p := ⟨g, 1, none⟩) h1 (.slice A2 l.length c2)
 generalize (w2.setCell ⟨g, 0, none⟩ (.slice A0 l.length c0)).setCell ⟨g, 1, none⟩ (.slice A2 l.length c2) = w3 at *
 have q3 := (Kd.R_reads' (Kd.R_of_own (h1 := fun _ => rfl) (ok := fun _ => True) ho2 (fun _ _ => trivial))).2
 refine bodyPost_ret (v := .agg #[.slice A0 l.length c0, .slice A2 l.length c2]) ?_ rfl ?_
 ·exact results_cell_row rfl _ _ g 101 #[.slice A0 l.length c0, .slice A2 l.length c2] (0, 0) _ rfl N2 Tryd.underlying101 rfl (by kernel_rfl)
 ·rw [hlen2] at q3 ho2
  exact ⟨A2, c2, rfl, q3.2, q3.1, ho2, HB2⟩
theorem refRoot_walk (key : ByteArray) (A0 : Option Addr) (c0 : Nat) (l : List S46) (w : World) (hr0 : Kd.C k46 w A0 l.length l) (hc0 : l.length ≤ c0) (hl : l.length ≤ 1000) (hkey : key.size ≤ 1000000000) (hok : okL l) :
  Calls Tryd.prog 33 #[.string key, .slice A0 l.length c0] w fun e w' => e = .returned (.string (rootL key l)) ∧ Below w.heap.size w w' := by
 have HL := Lib.hid (list_walk key A0 c0 l w hr0 hc0 hl hkey hok)
 have hlen2 : (htsL key l).length = l.length := by unfold htsL; exact List.length_map _
 have HO := Lib.hid (fun A c W (h : Below w.heap.size w W) h2 h3 => saltusref17_Of.calls A0 c0 l A c (htsL key l) (-1) ((8 : Nat) : Int) _ W (Kd.C_below hr0 h) hc0 h2 h3 (of_at key l hl hok (-1) (by omega) (by omega) 8 (by omega)))
 have e : lab 8 ((ents key l).drop (-1 + 1 : Int).toNat) = rootL key l := rfl
 rw [e, hlen2] at HO
 clear hr0 hok hkey e
 generalize rootL key l = y at *
 generalize htsL key l = hs at *
 go_enter Tryd.func33, Tryd.ntmps33
 go_wp2_with fail
 refine (HL.out).mono ?_
 rintro e w1 ⟨A2, c2, rfl, h2, h3, ho, hb1⟩
 go_wp2_with fail
 refine (HO.out A2 c2 w1 hb1 h2 h3).mono ?_
 rintro e w2 ⟨rfl, hb2⟩
 have HB := below_step hb1 hb2
 clear HL HO h2 h3 hb1 hb2
 go_wp2
 go_ret
 exact ⟨rfl, HB⟩
theorem drop_ents (key : ByteArray) (l : List S46) (i : Nat) : (ents key l).drop (i + 1) = (l.drop i).map (ent key) := by
 unfold ents
 rw [List.drop_succ_cons, List.map_drop]
theorem own_C {w : World} {base : Nat} {A : Option Addr} {n c : Nat} {hs : List Int} (h : w.ownsRow base 3 1 (.slice A n c) n (intV hs)) (hl : hs.length = n) : Kd.C (Kd.int .i64) w A n hs ∧ n ≤ c := by
 subst hl
 have q := Kd.R_reads' (Kd.R_of_own (enc := Value.int .i64) (h1 := fun _ => rfl) (ok := fun _ => True) h (fun _ _ => trivial))
 exact ⟨q.2.2, q.2.1⟩
theorem htsL_at (key : ByteArray) (l : List S46) (i : Nat) (h : i < l.length) : (htsL key l).getD i 0 = ((heightN key l[i].f0.toNat : Nat) : Int) := by
 unfold htsL
 rw [List.getD_eq_getElem?_getD, List.getElem?_map, List.getElem?_eq_getElem h]
 rfl
theorem int_at {w : World} {A : Option Addr} {l : List Int} (h : Kd.C (Kd.int .i64) w A l.length l) (h0 : 0 < l.length) : ∃ ad, A = some ad ∧ ∀ k, (hk : k < l.length) → w.cell? (ad.add k) = some (.int .i64 (l.getD k 0)) := by
 obtain ⟨ad, e, hc⟩ := h.2.2 h0
 refine ⟨ad, e, fun k hk => ?_⟩
 obtain ⟨c, hs, hr, hcell⟩ := hc k _ (List.getElem?_eq_getElem hk)
 obtain rfl := hr
 have h1 := hcell 0 _ rfl
 have h3 : k * (Kd.int .i64).sz + 0 = k := by show k * 1 + 0 = k; omega
 rw [h3] at h1
 rw [h1, List.getD_eq_getElem?_getD, List.getElem?_eq_getElem hk]
 rfl
set_option maxHeartbeats 8000000 in
set_option maxRecDepth 100000 in
theorem refRow_walk (key : ByteArray) (A0 : Option Addr) (c0 : Nat) (l : List S46) (lv : Nat) (hlv : lv ≤ 8) (w : World) (hr0 : Kd.C k46 w A0 l.length l) (hc0 : l.length ≤ c0) (hl : l.length ≤ 1000) (hkey : key.size ≤ 1000000000) (hok : okL l) :
  Calls Tryd.prog 35 #[.string key, .slice A0 l.length c0, .int .i64 (lv : Int)] w fun e w' => ∃ v, e = .returned v ∧ w'.ownsRow w.heap.size 9 1 v (rowL key l lv).length (strV (rowL key l lv)) ∧ Below w.heap.size w w' := by
 obtain ⟨i9, hi9, hz9, hs9, hb9⟩ := info_parts str_info
 have HL := Lib.hid (list_walk key A0 c0 l w hr0 hc0 hl hkey hok)
 have hlen2 : (htsL key l).length = l.length := by unfold htsL; exact List.length_map _
 have HO0 := Lib.hid (fun A c W (h : Below w.heap.size w W) h2 h3 => saltusref17_Of.calls A0 c0 l A c (htsL key l) (-1) (lv : Int) _ W (Kd.C_below hr0 h) hc0 h2 h3 (of_at key l hl hok (-1) (by omega) (by omega) lv hlv))
 have HO := Lib.hid (fun A c W i (hi : i < l.length) (h : Below w.heap.size w W) h2 h3 => saltusref17_Of.calls A0 c0 l A c (htsL key l) (i : Int) (lv : Int) _ W (Kd.C_below hr0 h) hc0 h2 h3 (of_at key l hl hok (i : Int) (by omega) (by omega) lv hlv))
 have HAT := Lib.hid (htsL_at key l)
 have e : (ents key l).drop (-1 + 1 : Int).toNat = ents key l := rfl
 rw [e, hlen2] at HO0
 rw [hlen2] at HO
 have HST : Hid ([lab lv (ents key l)] ++ rowF (lab lv) lv ((l.drop 0).map (ent key)) = rowL key l lv) := Lib.hid (by
  unfold rowL ents
  rw [rowF, if_pos (show lv < head.h from by show lv < 9; omega)]
  rfl)
 obtain ⟨y0, hy0⟩ : ∃ y, lab lv (ents key l) = y := ⟨_, rfl⟩
 rw [hy0] at HO0 HST
 clear hr0 hok hkey e hy0
 have HLEN := Lib.hid hlen2
 clear hlen2
 generalize htsL key l = hs at *
 go_enter Tryd.func35, Tryd.ntmps35
 go_wp2_with fail
 refine (HL.out).mono ?_
 rintro e w1 ⟨A2, c2, rfl, h2, h3, ho, hb1⟩
 have N := Aside0.mk (Blk.new w1 101 #[.slice A0 l.length c0, .slice A2 l.length c2])
 have HB := Aside0.mk (Below.alloc hb1 hb1.size (.cells #[.slice A0 l.length c0, .slice A2 l.length c2] 101))
 have HH := Aside0.mk (ho.alloc (.cells #[.slice A0 l.length c0, .slice A2 l.length c2] 101))
 clear h2 h3 ho
 clear HL hb1
 go_upto_region 2 with (fail)
 generalize w1.heap.size = g at *
 generalize w1.alloc (.cells #[.slice A0 l.length c0, .slice A2 l.length c2] 101) = w2 at *
 have hc0' := N.out.cell 0
 have hc1' := N.out.cell 1
 go_upto_region 3 with (go_at_call 69; refine (HO0.out A2 c2 _ HB.out (own_C HH.out HLEN.out).1 (own_C HH.out HLEN.out).2).mono ?_; rintro e w3 ⟨rfl, hb3⟩; replace N := Aside0.mk (blk_bel N.out hb3); replace HH := Aside0.mk (own_bel HH.out hb3); replace HB := Aside0.mk (below_step HB.out hb3); clear hb3 hc0' hc1')
 have R := Aside0.mk (own_of_blk (base := w.heap.size) (Blk.new w3 9 #[.string y0]) HB.out.size)
 replace N := Aside0.mk (N.out.alloc (.cells #[.string y0] 9))
 replace HH := Aside0.mk (HH.out.alloc (.cells #[.string y0] 9))
 replace HB := Aside0.mk (HB.out.alloc HB.out.size (.cells #[.string y0] 9))
 generalize w3.alloc (.cells #[.string y0] 9) = w4 at *
 generalize w3.heap.size = g3 at *
 clear HO0
 go_wp2
 go_loopw [8, 19] (fun ov iv wr => ∃ (i : Nat) (o : List ByteArray), i ≤ l.length ∧ iv = .int .i64 i ∧ o.length ≤ i + 1 ∧ Hid (o ++ rowF (lab lv) lv ((l.drop i).map (ent key)) = rowL key l lv) ∧ Aside0 (wr.ownsRow w.heap.size 9 1 ov o.length (strV o)) ∧ Aside0 (wr.ownsRow w.heap.size 3 1 (.slice A2 l.length c2) l.length (intV hs)) ∧ Aside0 (Blk wr g 101 #[.slice A0 l.length c0, .slice A2 l.length c2]) ∧ Aside0 (Below w.heap.size w wr)) (fun _ iv _ => l.length - (intOf iv).toNat)
 case atStart => exact ⟨0, [y0], Nat.zero_le _, rfl, by simp, HST, R, HH, N, HB⟩
 case round =>
  clear R HH N HB HST
  obtain ⟨i, o, hi, rfl, hoi, HE, HR, HH, N, HB⟩ := hrel
  have hc0' := N.out.cell 0
  have hc1' := N.out.cell 1
  by_cases hlt : i < l.length
  ·obtain ⟨ad, e1, hcs⟩ := int_at (by rw [HLEN.out]; exact (own_C HH.out HLEN.out).1) (by rw [HLEN.out]; omega)
   have hci := hcs i (by rw [HLEN.out]; exact hlt)
   cases e1
   rw [HAT.out i hlt] at hci
   have p0 : (0 : Int) ≤ (i : Int) := by omega
   have p1 : (i : Int) < (l.length : Int) := by omega
   have hE := HE.out
   rw [List.drop_eq_getElem_cons hlt, List.map_cons, rowF] at hE
   have hh : (ent key l[i]).h = heightN key l[i].f0.toNat := rfl
   rw [hh] at hE
   clear hcs HE hh
   generalize heightN key l[i].f0.toNat = z at *
   by_cases hz : lv < z
   ·rw [if_pos hz] at hE
    have eo : (ents key l).drop ((i : Int) + 1).toNat = ent key l[i] :: (l.drop (i + 1)).map (ent key) := by
     rw [show ((i : Int) + 1).toNat = i + 1 from by omega, drop_ents, List.drop_eq_getElem_cons hlt, List.map_cons]
    have HOi := Lib.hid (fun W h (h2 : W.ownsRow w.heap.size 3 1 (.slice (some ad) l.length c2) l.length (intV hs)) => HO.out (some ad) c2 W i hlt h (own_C h2 HLEN.out).1 (own_C h2 HLEN.out).2)
    rw [eo] at HOi
    generalize lab lv (ent key l[i] :: (l.drop (i + 1)).map (ent key)) = y at *
    have HE2 : Hid ((o ++ [y]) ++ rowF (lab lv) lv ((l.drop (i + 1)).map (ent key)) = rowL key l lv) := Lib.hid (by rw [List.append_assoc]; exact hE)
    have hm1 : o.length + 1 ≤ maxLen := by simp only [maxLen]; omega
    have hm2 : (o.length + 1) * 16 ≤ 140737488355328 := by omega
    clear hE eo
    go_wp2_with (first | (go_at_call 69; refine (HOi.out _ HB.out HH.out).mono ?_; rintro e w5 ⟨rfl, hb5⟩; replace HR := Aside0.mk (own_bel HR.out hb5); replace HH := Aside0.mk (own_bel HH.out hb5); replace N := Aside0.mk (blk_bel N.out hb5); replace HB := Aside0.mk (below_step HB.out hb5); clear hb5 hc0' hc1') | (at_builtin; refine wpList_append_own _ rfl _ _ 49 rfl w.heap.size 9 i9 (.string ⟨#[]⟩) 1 16 Tryd.underlying49 hi9 hz9 hs9 hb9 rfl (by decide) _ _ _ rfl (HR.out.alloc _) ⟨w5.heap.size, 0, none⟩ 1 1 [.string y] rfl rfl (cell_one_new _ _ _) (by simp [Value.oneCell']) hm1 hm2 (by have := HB.out.size; simp; omega) ?_; intro v' w6 hown' hgrow _))
    go_roundw
    case rel =>
     refine ⟨i + 1, o ++ [y], by omega, by go_num, by rw [List.length_append, List.length_singleton]; omega, HE2, ⟨?_⟩, ⟨(HH.out.alloc (.cells #[.string y] 9)).kept hgrow (own_ne2 (HH.out.alloc (.cells #[.string y] 9)) (HR.out.alloc (.cells #[.string y] 9)) (by decide))⟩, ⟨blk_grown (N.out.alloc (.cells #[.string y] 9)) hgrow (own_ne (HR.out.alloc (.cells #[.string y] 9)) (N.out.alloc (.cells #[.string y] 9)) (by decide))⟩, ⟨(HB.out.alloc HB.out.size _).grown hgrow (by have := HB.out.size; simp; omega) (fun q e => own_base HR.out q e)⟩⟩
     ·unfold strV at hown' ⊢
      rw [List.length_append, List.length_singleton, List.map_append]
      exact hown'
    case measure => simp [intOf]; omega
   ·rw [if_neg hz] at hE
    have HE2 := Lib.hid hE
    clear hE
    go_wp2
    go_roundw
    case rel => exact ⟨i + 1, o, by omega, by go_num, by omega, HE2, HR, HH, N, HB⟩
    case measure => simp [intOf]; omega
  ·obtain rfl : i = l.length := by omega
   have hE := HE.out
   rw [List.drop_eq_nil_of_le (Nat.le_refl _), List.map_nil, rowF, List.append_nil] at hE
   have HE2 := Lib.hid hE
   clear hE HE
   go_wp2
   go_ret
   refine ⟨_, rfl, ?_, HB.out⟩
   rw [← HE2.out]
   exact HR.out
end Go.Proofs.YtolbhliepkcihaaDoor.Lab
end
section
namespace Go.Proofs.YtolbhliepkcihaaDoor
open Go.RowKit Go.Proofs.YtolbhliepkcihaaDoorW.PrintWords Go.Proofs.YtolbhliepkcihaaDoor.Kinds Go.Proofs.YtolbhliepkcihaaDoor.Build Go.Proofs.YtolbhliepkcihaaDoor.Lab Go.Proofs.YtolbhliepkcihaaDoor.Sha Go.Proofs.YtolbhliepkcihaaDoor.Mac Go.Proofs.YtolbhliepkcihaaDoor.Codec Go.Proofs.YtolbhliepkcihaaDoor.Tower Go.Proofs.YtolbhliepkcihaaDoor.SkipOps Go.Proofs.YtolbhliepkcihaaDoor.SkipPure
def keysB (l : List S46) : Bool := l.all fun x => decide (0 ≤ x.f0) && decide (x.f0 < 18446744073709551616)
def rightB (l : List S46) : Bool := (List.range l.length).all (fun i => decide ((it l i).f1.size ≤ 64) && (decide (i = 0) || decide (ky l (i - 1) < ky l i))) && decide (l.length ≤ 64)
theorem rightB_iff (l : List S46) : rightB l = true ↔ RightP l := by
 unfold rightB RightP okAt
 simp only [Bool.and_eq_true, List.all_eq_true, List.mem_range, decide_eq_true_eq, Bool.or_eq_true]
 constructor
 ·rintro ⟨h1, h2⟩
  refine ⟨fun i hi => ⟨(h1 i hi).1, fun h0 => ?_⟩, h2⟩
  rcases (h1 i hi).2 with h | h
  ·omega
  ·exact h
 ·rintro ⟨h1, h2⟩
  refine ⟨fun i hi => ⟨(h1 i hi).1, ?_⟩, h2⟩
  rcases Nat.eq_zero_or_pos i with h | h
  ·exact .inl h
  ·exact .inr ((h1 i hi).2 h)
theorem keysB_all (l : List S46) (h : keysB l = true) : ∀ x, x ∈ l → 0 ≤ x.f0 ∧ x.f0 < 18446744073709551616 := fun x hx => by
 have := List.all_eq_true.1 h x hx
 simpa [Bool.and_eq_true] using this
theorem right_size (l : List S46) (h : RightP l) : ∀ x, x ∈ l → x.f1.size ≤ 64 := fun x hx => by
 obtain ⟨i, hi, rfl⟩ := List.mem_iff_getElem.1 hx
 have := (h.1 i hi).1
 rw [it_mem l i hi] at this
 exact this
theorem okL_of (l : List S46) (h : RightP l) (hk : keysB l = true) : okL l := fun x hx => by
 have h1 := right_size l h x hx
 have h2 := keysB_all l hk x hx
 exact ⟨by omega, h2.1, h2.2⟩
def domB (key : ByteArray) (l : List S46) : Bool := decide (key.size ≤ 1000000000) && decide (l.length ≤ 1000) && keysB l
theorem domB_of {key : ByteArray} {l : List S46} (h : domB key l = true) : key.size ≤ 1000000000 ∧ l.length ≤ 1000 ∧ keysB l = true := by
 unfold domB at h
 simp only [Bool.and_eq_true, decide_eq_true_eq] at h
 exact ⟨h.1.1, h.1.2, h.2⟩
def label_Row.f (a0 : ByteArray) (l1 : List S46) (a2 : Int) : Option (List ByteArray × Int) :=
 if domB a0 l1 = true then some (if rightB l1 = true then (if a2 < 0 ∨ 8 < a2 then ([], 2) else (rowL a0 l1 a2.toNat, 0)) else ([], 1)) else none
theorem R_of_strV {w : World} {base : Nat} {v : Value} {l : List ByteArray} (h : w.ownsRow base 9 1 v l.length (strV l)) : Kd.R Kd.string 9 w base (fun _ => True) v l := Kd.R_of_own h (fun _ _ => trivial)
theorem label_Row.calls (a0 : ByteArray) (A1 : Option Addr) (c1 : Nat) (l1 : List S46) (a2 : Int) (r1 : List ByteArray) (r2 : Int) (w : World) (hr1 : Kd.C k46 w A1 l1.length l1) (hc1 : l1.length ≤ c1) (h : label_Row.f a0 l1 a2 = some (r1, r2)) (hT0 : TabW w) :
  Calls Tryd.prog 30 #[.string a0, .slice A1 l1.length c1, .int .i64 a2] w fun e w' => ∃ v0_ : Value, e = .returned (.tuple #[v0_, .int .i64 r2]) ∧ Kd.R Kd.string 9 w' w.heap.size (fun _ => True) v0_ r1 ∧ Below w.heap.size w w' := by
 unfold label_Row.f at h
 split at h
 ·rename_i hd
  obtain ⟨h1, h2, h3⟩ := domB_of hd
  have h := Option.some.inj h
  by_cases g1 : rightB l1 = true
  ·have hp := (rightB_iff l1).1 g1
   rw [if_pos g1] at h
   by_cases g2 : a2 < 0 ∨ 8 < a2
   ·rw [if_pos g2] at h
    obtain ⟨rfl, rfl⟩ := Prod.mk.inj h
    exact (Row_range a0 A1 c1 l1 a2 w hr1 hc1 h2 hp g2).mono fun e w' q => ⟨_, q.1, Kd.R_nil _ _ _ _ _, q.2⟩
   ·rw [if_neg g2] at h
    obtain ⟨rfl, rfl⟩ := Prod.mk.inj h
    obtain ⟨m, rfl⟩ : ∃ m : Nat, a2 = (m : Int) := ⟨a2.toNat, by omega⟩
    exact (Row_ok a0 A1 c1 l1 m w hr1 hc1 h2 h1 (okL_of l1 hp h3) (by omega) hT0 hp).mono fun e w' ⟨v, q1, q2, q3⟩ => ⟨v, q1, R_of_strV q2, q3⟩
  ·rw [if_neg g1] at h
   obtain ⟨rfl, rfl⟩ := Prod.mk.inj h
   exact (Row_bad a0 A1 c1 l1 a2 w hr1 hc1 h2 (fun hp => g1 ((rightB_iff l1).2 hp))).mono fun e w' q => ⟨_, q.1, Kd.R_nil _ _ _ _ _, q.2⟩
 ·cases h
def label_Root.f (a0 : ByteArray) (l1 : List S46) : Option (ByteArray × Int) :=
 if domB a0 l1 = true then some (if rightB l1 = true then (rootL a0 l1, 0) else (⟨#[]⟩, 1)) else none
theorem label_Root.calls (a0 : ByteArray) (A1 : Option Addr) (c1 : Nat) (l1 : List S46) (r1 : ByteArray) (r2 : Int) (w : World) (hr1 : Kd.C k46 w A1 l1.length l1) (hc1 : l1.length ≤ c1) (h : label_Root.f a0 l1 = some (r1, r2)) (hT0 : TabW w) :
  Calls Tryd.prog 31 #[.string a0, .slice A1 l1.length c1] w fun e w' => e = .returned (.tuple #[.string r1, .int .i64 r2]) ∧ Below w.heap.size w w' := by
 unfold label_Root.f at h
 split at h
 ·rename_i hd
  obtain ⟨h1, h2, h3⟩ := domB_of hd
  have h := Option.some.inj h
  by_cases g1 : rightB l1 = true
  ·have hp := (rightB_iff l1).1 g1
   rw [if_pos g1] at h
   obtain ⟨rfl, rfl⟩ := Prod.mk.inj h
   exact Root_ok a0 A1 c1 l1 w hr1 hc1 h2 h1 (okL_of l1 hp h3) hT0 hp
  ·rw [if_neg g1] at h
   obtain ⟨rfl, rfl⟩ := Prod.mk.inj h
   exact Root_bad a0 A1 c1 l1 w hr1 hc1 h2 (fun hp => g1 ((rightB_iff l1).2 hp))
 ·cases h
def saltusref17_Root.f (a0 : ByteArray) (l1 : List S46) : Option ByteArray :=
 if domB a0 l1 = true ∧ rightB l1 = true then some (rootL a0 l1) else none
theorem saltusref17_Root.calls (a0 : ByteArray) (A1 : Option Addr) (c1 : Nat) (l1 : List S46) (r : ByteArray) (w : World) (hr1 : Kd.C k46 w A1 l1.length l1) (hc1 : l1.length ≤ c1) (h : saltusref17_Root.f a0 l1 = some r) :
  Calls Tryd.prog 33 #[.string a0, .slice A1 l1.length c1] w fun e w' => e = .returned (.string r) ∧ Below w.heap.size w w' := by
 unfold saltusref17_Root.f at h
 split at h
 ·rename_i hd
  obtain ⟨h1, h2, h3⟩ := domB_of hd.1
  obtain rfl := Option.some.inj h
  exact refRoot_walk a0 A1 c1 l1 w hr1 hc1 h2 h1 (okL_of l1 ((rightB_iff l1).1 hd.2) h3)
 ·cases h
def saltusref17_Row.f (a0 : ByteArray) (l1 : List S46) (a2 : Int) : Option (List ByteArray) :=
 if domB a0 l1 = true ∧ rightB l1 = true ∧ 0 ≤ a2 ∧ a2 ≤ 8 then some (rowL a0 l1 a2.toNat) else none
theorem saltusref17_Row.calls (a0 : ByteArray) (A1 : Option Addr) (c1 : Nat) (l1 : List S46) (a2 : Int) (r : List ByteArray) (w : World) (hr1 : Kd.C k46 w A1 l1.length l1) (hc1 : l1.length ≤ c1) (h : saltusref17_Row.f a0 l1 a2 = some r) :
  Calls Tryd.prog 35 #[.string a0, .slice A1 l1.length c1, .int .i64 a2] w fun e w' => ∃ v0_ : Value, e = .returned (v0_) ∧ Kd.R Kd.string 9 w' w.heap.size (fun _ => True) v0_ r ∧ Below w.heap.size w w' := by
 unfold saltusref17_Row.f at h
 split at h
 ·rename_i hd
  obtain ⟨h1, h2, h3⟩ := domB_of hd.1
  obtain rfl := Option.some.inj h
  obtain ⟨m, rfl⟩ : ∃ m : Nat, a2 = (m : Int) := ⟨a2.toNat, by omega⟩
  exact (refRow_walk a0 A1 c1 l1 m (by omega) w hr1 hc1 h2 h1 (okL_of l1 ((rightB_iff l1).1 hd.2.1) h3)).mono fun e w' ⟨v, q1, q2, q3⟩ => ⟨v, q1, R_of_strV q2, q3⟩
 ·cases h
def saltusref16_Right.f (l0 : List S46) : Option Bool := if l0.length ≤ 100000 then some (rightB l0) else none
theorem saltusref16_Right.calls (A0 : Option Addr) (c0 : Nat) (l0 : List S46) (r : Bool) (w : World) (hr0 : Kd.C k46 w A0 l0.length l0) (hc0 : l0.length ≤ c0) (h : saltusref16_Right.f l0 = some r) :
  Calls Tryd.prog 25 #[.slice A0 l0.length c0] w fun e w' => e = .returned (.bool r) ∧ Below w.heap.size w w' := by
 unfold saltusref16_Right.f at h
 split at h
 ·rename_i hn
  obtain rfl := Option.some.inj h
  obtain ⟨r, hr, _, hB⟩ := c_right A0 c0 l0 hn
  have e : r = rightB l0 := by
   by_cases g : RightP l0
   ·rw [hr.2 g, (rightB_iff l0).2 g]
   ·have g1 : r = false := by
     cases r
     ·rfl
     ·exact absurd (hr.1 rfl) g
    have g2 : rightB l0 = false := by
     cases hb : rightB l0
     ·rfl
     ·exact absurd ((rightB_iff l0).1 hb) g
    rw [g1, g2]
  rw [← e]
  exact hB w hr0 hc0
 ·cases h
def leafB (a0 : Int) (a1 : ByteArray) : Bool := decide (0 ≤ a0) && decide (a0 < 18446744073709551616) && decide (a1.size ≤ 4096)
theorem leafB_of {a0 : Int} {a1 : ByteArray} (h : leafB a0 a1 = true) : 0 ≤ a0 ∧ a0 < 18446744073709551616 ∧ a1.size ≤ 4096 := by
 unfold leafB at h
 simp only [Bool.and_eq_true, decide_eq_true_eq] at h
 exact ⟨h.1.1, h.1.2, h.2⟩
def saltusref17_Leaf.f (a0 : Int) (a1 : ByteArray) : Option ByteArray := if leafB a0 a1 = true then some (sumS (itemT ⟨a0, a1⟩)) else none
theorem saltusref17_Leaf.calls (a0_0 : Int) (a0_1 : ByteArray) (r : ByteArray) (w : World) (h : saltusref17_Leaf.f a0_0 a0_1 = some r) :
  Calls Tryd.prog 43 #[.agg #[.int .u64 a0_0, .string a0_1]] w fun e w' => e = .returned (.string r) ∧ Below w.heap.size w w' := by
 unfold saltusref17_Leaf.f at h
 split at h
 ·rename_i hd
  obtain ⟨h1, h2, h3⟩ := leafB_of hd
  obtain rfl := Option.some.inj h
  exact QLA.saltusref17_Leaf.calls a0_0 a0_1 _ w (leaf_f ⟨a0_0, a0_1⟩ h1 h2 h3)
 ·cases h
def saltusref17_Text.f (a0 : Int) (l1 : List ByteArray) : Option ByteArray := if 0 ≤ a0 ∧ a0 ≤ 1000 ∧ l1.length ≤ 1000000 ∧ (catS l1).size ≤ 1000000000000 then some (joinT a0.toNat l1) else none
theorem saltusref17_Text.calls (a0 : Int) (A1 : Option Addr) (c1 : Nat) (l1 : List ByteArray) (r : ByteArray) (w : World) (hr1 : Kd.C Kd.string w A1 l1.length l1) (hc1 : l1.length ≤ c1) (h : saltusref17_Text.f a0 l1 = some r) :
  Calls Tryd.prog 46 #[.int .i64 a0, .slice A1 l1.length c1] w fun e w' => e = .returned (.string r) ∧ Below w.heap.size w w' := by
 unfold saltusref17_Text.f at h
 split at h
 ·rename_i hd
  obtain rfl := Option.some.inj h
  obtain ⟨m, rfl⟩ : ∃ m : Nat, a0 = (m : Int) := ⟨a0.toNat, by omega⟩
  obtain ⟨k, hk⟩ := (text_ev m (by omega) l1 hd.2.2.1 hd.2.2.2).rounds
  exact QLA.saltusref17_Text.calls k (m : Int) A1 c1 l1 _ w hr1 hc1 hk
 ·cases h
end Go.Proofs.YtolbhliepkcihaaDoor
end
section
namespace Go.Proofs.YtolbhliepkcihaaDoor.QLR
open Go.RowKit Go.Proofs.YtolbhliepkcihaaDoor.Kinds Go.Proofs.YtolbhliepkcihaaDoorW.PrintWords Go.Proofs.YtolbhliepkcihaaDoorW.PrintLast Go.Proofs.YtolbhliepkcihaaDoorW.PrintMore
attribute [local go_sem] max2_int min2_int max_two min_two max_three min_three max_four min_four   -- for this text's walks alone
set_option linter.unusedVariables false
set_option linter.unusedSimpArgs false
def errW : Option Int → Value
 | none => .nilIface
 | some c => .iface 0 (.int .i64 c)
theorem errW_none : errW none = .nilIface := rfl
theorem errW_some (c : Int) : errW (some c) = .iface 0 (.int .i64 c) := rfl
theorem info9 : (Tryd.prog.info? 9).map (fun i => (i.zero, i.size, i.bytes)) = some (some (.string ⟨#[]⟩), 1, 16) := by kernel_rfl
theorem info46 : (Tryd.prog.info? 46).map (fun i => (i.zero, i.size, i.bytes)) = some (some (.agg #[(.int .u64 0), (.string ⟨#[]⟩)]), 2, 24) := by kernel_rfl
end Go.Proofs.YtolbhliepkcihaaDoor.QLR
end
