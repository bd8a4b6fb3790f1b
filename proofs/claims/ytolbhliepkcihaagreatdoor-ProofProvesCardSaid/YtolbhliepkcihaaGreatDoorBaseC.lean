/- Joined by a program of this session (wip/pack.py) for this claim: Shelf, ShaPad, ShaRootA, ShaRootB, ShaPrimes, Until, ShaIter, ShaRoots, ShaRoots2, ShaSum, ShaRef2, ShaStub, ShaPure, MacSpec, MacWalk, MacKeys, MacStub. -/
import Derived.Shelf.Strings.Builder1
import Derived.Shelf.Strings.Builder2
import Derived.Shelf.Strings.OnBuilder
import Derived.Shelf.Strings.BuilderF
import Derived.Shelf.Strings.BuilderK
import Derived.Shelf.Strings.Prefix
import Derived.Shelf.Bits.Mul64
import Derived.Shelf.Strings.Repeat
import Derived.Ground.SlgnProg
import Derived.Shelf.SlicesE.Equal
import Derived.Shelf.SlicesE.Clone
import Derived.Ground.SlgfProg
import Derived.Shelf.SlicesE.IndexFunc
import Derived.Shelf.SlicesE.DeleteFunc
import Derived.Test.YtolbhliepkcihaaGreatDoorProg
import Derived.Test.YtolbhliepkcihaaGreatDoorBaseB
import Derived.Laws.BytesArg
import Derived.Test.YtolbhliepkcihaaGreatDoorBaseA
import Derived.Shelf.Spec.BitsCarry
import Derived.Lib.Hide
import Derived.Outline
import Derived.Deep.DeepCutAuto
import Derived.Deep.CutBlock
import Derived.LoopTactic
import Derived.Laws.BitsAllLaws
import Derived.RangeFuncNested
import Derived.RangeFuncBound
import Derived.RangeFuncCalls
import Derived.RangeFuncLeaves
import Derived.Shelf.Abstract
import Derived.Shelf.RegionOpen
import Derived.WalkKit
import Derived.OwnWalkIn
import Derived.TacticsInMore
import Derived.LoopNIn
import Derived.LoopIn
import Derived.RangeFuncBox
import Derived.Maps.AppendAt
import Derived.Lib.ConvBytes
section
namespace Go.Proofs
open Go.Shelf
def Tryz.lays169_ren : Go.Shelf.Ren := ⟨fun | 169 => 75 | n => n, fun | 70 => 101 | 9 => 9 | 0 => 0 | 72 => 103 | 37 => 74 | 127 => 125 | 3 => 3 | 5 => 5 | n => n, fun | n => n⟩
theorem Tryz.lays169 : Go.Proofs.Lays.n169 Tryz.prog Tryz.lays169_ren := {
 mixed := by kernel_rfl
 f169 := Tryz.func75.trans (congrArg some (by kernel_rfl))
 t0 := Tryz.underlying0
 a0 := Tryz.isAgg0
 z0 := Tryz.sizeOf0
 v0 := Tryz.zeroValue0
 t3 := Tryz.underlying3
 a3 := Tryz.isAgg3
 z3 := Tryz.sizeOf3
 v3 := Tryz.zeroValue3
 t9 := Tryz.underlying9
 a9 := Tryz.isAgg9
 z9 := Tryz.sizeOf9
 v9 := Tryz.zeroValue9
 t37 := Tryz.underlying74
 a37 := Tryz.isAgg74
 z37 := Tryz.sizeOf74
 v37 := Tryz.zeroValue74
 t70 := Tryz.underlying101
 a70 := Tryz.isAgg101
 z70 := Tryz.sizeOf101
 v70 := Tryz.zeroValue101
 t72 := Tryz.underlying103
 a72 := Tryz.isAgg103
 z72 := Tryz.sizeOf103
 v72 := Tryz.zeroValue103
 t127 := Tryz.underlying125
 a127 := Tryz.isAgg125
 z127 := Tryz.sizeOf125
 v127 := Tryz.zeroValue125 }
theorem Tryz.Builder_Extra_169 : Builder.Extra Tryz.prog Tryz.lays169_ren := {
 sizeBuilder := by kernel_rfl
 liesBuilder := by kernel_rfl
 t5 := Tryz.underlying5
 a5 := Tryz.isAgg5
 z5 := Tryz.sizeOf5
 v5 := Tryz.zeroValue5
 infoByte := by kernel_rfl
 cellsByte := by kernel_rfl
 sizeByte := by kernel_rfl
 neB5 := by decide }
open Go.RowKit in
theorem Tryz.Builder_String_any (B b : Nat) (l : List UInt8) (w : World) (h : Lib.IsBuilder 103 5 B b (Lib.byteCells l) w) (hBw : B ≤ w.heap.size) :
  Calls Tryz.prog 75 #[.pointer (some ⟨b, 0, none⟩)] w fun e w' => e = .returned (.string ⟨l.toArray⟩) ∧ Below B w w' := Any.Builder_String_any Tryz.lays169 Tryz.Builder_Extra_169 B b l w h hBw
def Tryz.lays165_ren : Go.Shelf.Ren := ⟨fun | 165 => 76 | 240 => 92 | 241 => 93 | 276 => 105 | 277 => 106 | n => n, fun | 70 => 101 | 3 => 3 | 0 => 0 | 4 => 4 | 9 => 9 | 20 => 20 | 72 => 103 | 37 => 74 | 164 => 140 | 5 => 5 | n => n, fun | n => n⟩
theorem Tryz.lays165 : Go.Proofs.Lays.n165 Tryz.prog Tryz.lays165_ren := {
 mixed := by kernel_rfl
 f165 := Tryz.func76.trans (congrArg some (by kernel_rfl))
 f240 := Tryz.func92.trans (congrArg some (by kernel_rfl))
 f241 := Tryz.func93.trans (congrArg some (by kernel_rfl))
 f276 := Tryz.func105.trans (congrArg some (by kernel_rfl))
 f277 := Tryz.func106.trans (congrArg some (by kernel_rfl))
 t0 := Tryz.underlying0
 a0 := Tryz.isAgg0
 z0 := Tryz.sizeOf0
 v0 := Tryz.zeroValue0
 t3 := Tryz.underlying3
 a3 := Tryz.isAgg3
 z3 := Tryz.sizeOf3
 v3 := Tryz.zeroValue3
 t4 := Tryz.underlying4
 a4 := Tryz.isAgg4
 z4 := Tryz.sizeOf4
 v4 := Tryz.zeroValue4
 t9 := Tryz.underlying9
 a9 := Tryz.isAgg9
 z9 := Tryz.sizeOf9
 v9 := Tryz.zeroValue9
 t20 := Tryz.underlying20
 a20 := Tryz.isAgg20
 z20 := Tryz.sizeOf20
 v20 := Tryz.zeroValue20
 t37 := Tryz.underlying74
 a37 := Tryz.isAgg74
 z37 := Tryz.sizeOf74
 v37 := Tryz.zeroValue74
 t70 := Tryz.underlying101
 a70 := Tryz.isAgg101
 z70 := Tryz.sizeOf101
 v70 := Tryz.zeroValue101
 t72 := Tryz.underlying103
 a72 := Tryz.isAgg103
 z72 := Tryz.sizeOf103
 v72 := Tryz.zeroValue103
 t164 := Tryz.underlying140
 a164 := Tryz.isAgg140
 z164 := Tryz.sizeOf140
 v164 := Tryz.zeroValue140 }
theorem Tryz.Builder_Extra_165 : Builder.Extra Tryz.prog Tryz.lays165_ren := {
 sizeBuilder := by kernel_rfl
 liesBuilder := by kernel_rfl
 t5 := Tryz.underlying5
 a5 := Tryz.isAgg5
 z5 := Tryz.sizeOf5
 v5 := Tryz.zeroValue5
 infoByte := by kernel_rfl
 cellsByte := by kernel_rfl
 sizeByte := by kernel_rfl
 neB5 := by decide }
open Go.RowKit in
theorem Tryz.Builder_Grow_fresh (B b n : Nat) (w : World) (hB : B ≤ b) (hbk : w.heap[b]? = some (.cells #[.pointer none, .slice none 0 0] 103 (0, 0))) (hBw : B ≤ w.heap.size) (hn : n ≤ 281474976710656) :
  Calls Tryz.prog 76 #[.pointer (some ⟨b, 0, none⟩), .int .i64 n] w fun e w' => e = .returned (.tuple #[]) ∧ (Lib.BuilderAt 103 5 B b (.pointer (some ⟨b, 0, none⟩)) [] w' ∧ Below B w w') := Any.Builder_Grow_fresh Tryz.lays165 Tryz.Builder_Extra_165 B b n w hB hbk hBw hn
def Tryz.lays156_ren : Go.Shelf.Ren := ⟨fun | 156 => 55 | 165 => 76 | 166 => 73 | 169 => 75 | 240 => 92 | 241 => 93 | 276 => 105 | 277 => 106 | n => n, fun | 31 => 47 | 9 => 9 | 3 => 3 | 4 => 4 | 0 => 0 | 20 => 20 | 72 => 103 | 76 => 106 | 70 => 101 | 37 => 74 | 75 => 105 | 127 => 125 | 164 => 140 | 5 => 5 | 80 => 109 | n => n, fun | n => n⟩
theorem Tryz.lays156 : Go.Proofs.Lays.n156 Tryz.prog Tryz.lays156_ren := {
 mixed := by kernel_rfl
 f156 := Tryz.func55.trans (congrArg some (by kernel_rfl))
 f165 := Tryz.func76.trans (congrArg some (by kernel_rfl))
 f166 := Tryz.func73.trans (congrArg some (by kernel_rfl))
 f169 := Tryz.func75.trans (congrArg some (by kernel_rfl))
 f240 := Tryz.func92.trans (congrArg some (by kernel_rfl))
 f241 := Tryz.func93.trans (congrArg some (by kernel_rfl))
 f276 := Tryz.func105.trans (congrArg some (by kernel_rfl))
 f277 := Tryz.func106.trans (congrArg some (by kernel_rfl))
 t0 := Tryz.underlying0
 a0 := Tryz.isAgg0
 z0 := Tryz.sizeOf0
 v0 := Tryz.zeroValue0
 t3 := Tryz.underlying3
 a3 := Tryz.isAgg3
 z3 := Tryz.sizeOf3
 v3 := Tryz.zeroValue3
 t4 := Tryz.underlying4
 a4 := Tryz.isAgg4
 z4 := Tryz.sizeOf4
 v4 := Tryz.zeroValue4
 t9 := Tryz.underlying9
 a9 := Tryz.isAgg9
 z9 := Tryz.sizeOf9
 v9 := Tryz.zeroValue9
 t20 := Tryz.underlying20
 a20 := Tryz.isAgg20
 z20 := Tryz.sizeOf20
 v20 := Tryz.zeroValue20
 t31 := Tryz.underlying47
 a31 := Tryz.isAgg47
 z31 := Tryz.sizeOf47
 v31 := Tryz.zeroValue47
 t37 := Tryz.underlying74
 a37 := Tryz.isAgg74
 z37 := Tryz.sizeOf74
 v37 := Tryz.zeroValue74
 t70 := Tryz.underlying101
 a70 := Tryz.isAgg101
 z70 := Tryz.sizeOf101
 v70 := Tryz.zeroValue101
 t72 := Tryz.underlying103
 a72 := Tryz.isAgg103
 z72 := Tryz.sizeOf103
 v72 := Tryz.zeroValue103
 t75 := Tryz.underlying105
 a75 := Tryz.isAgg105
 z75 := Tryz.sizeOf105
 v75 := Tryz.zeroValue105
 t76 := Tryz.underlying106
 a76 := Tryz.isAgg106
 z76 := Tryz.sizeOf106
 v76 := Tryz.zeroValue106
 t127 := Tryz.underlying125
 a127 := Tryz.isAgg125
 z127 := Tryz.sizeOf125
 v127 := Tryz.zeroValue125
 t164 := Tryz.underlying140
 a164 := Tryz.isAgg140
 z164 := Tryz.sizeOf140
 v164 := Tryz.zeroValue140 }
theorem Tryz.Builder_Extra_156 : Builder.Extra Tryz.prog Tryz.lays156_ren := {
 sizeBuilder := by kernel_rfl
 liesBuilder := by kernel_rfl
 t5 := Tryz.underlying5
 a5 := Tryz.isAgg5
 z5 := Tryz.sizeOf5
 v5 := Tryz.zeroValue5
 infoByte := by kernel_rfl
 cellsByte := by kernel_rfl
 sizeByte := by kernel_rfl
 neB5 := by decide }
open Go.RowKit in
theorem Tryz.strings_Join (bk o c : Nat) (xs : List ByteArray) (sep : ByteArray) (w : World) (hcells : ∀ (j : Nat) x, xs[j]? = some x → w.cell? ⟨bk, o + j, none⟩ = some (.string x)) (hbk : bk < w.heap.size) (hN : xs.length ≤ 140737488355328) (hcap : xs.length ≤ c) (hlen : (Lib.join (xs.map (·.data.toList)) sep.data.toList).length ≤ 140737488355328) :
  Calls Tryz.prog 55 #[.slice (some ⟨bk, o, none⟩) xs.length c, .string sep] w fun e w' => e = .returned (.string ⟨(Lib.join (xs.map (·.data.toList)) sep.data.toList).toArray⟩) ∧ Below w.heap.size w w' := Any.strings_Join Tryz.lays156 Tryz.Builder_Extra_156 bk o c xs sep w hcells hbk hN hcap hlen
def Tryz.lays264_ren : Go.Shelf.Ren := ⟨fun | 264 => 96 | n => n, fun | 53 => 23 | 46 => 77 | n => n, fun | n => n⟩
theorem Tryz.lays264 : Go.Proofs.Lays.n264 Tryz.prog Tryz.lays264_ren := {
 mixed := by kernel_rfl
 f264 := Tryz.func96.trans (congrArg some (by kernel_rfl))
 t46 := Tryz.underlying77
 a46 := Tryz.isAgg77
 z46 := Tryz.sizeOf77
 v46 := Tryz.zeroValue77
 t53 := Tryz.underlying23
 a53 := Tryz.isAgg23
 z53 := Tryz.sizeOf23
 v53 := Tryz.zeroValue23 }
open Go.RowKit Go.Lib in
theorem Tryz.bits_Mul64 (x y : Nat) (hx : x < 18446744073709551616) (hy : y < 18446744073709551616) (w : World) :
  Calls Tryz.prog 96 #[.int .u64 x, .int .u64 y] w fun e w' => e = .returned (.tuple #[.int .u64 ((x * y / 18446744073709551616 : Nat) : Int), .int .u64 ((x * y % 18446744073709551616 : Nat) : Int)]) ∧ w' = w := Any.bits_Mul64 Tryz.lays264 x y hx hy w
def Tryz.lays105_ren : Go.Shelf.Ren := ⟨fun | 105 => 80 | 212 => 98 | 99 => 99 | 165 => 76 | 166 => 73 | 170 => 100 | 169 => 75 | 263 => 108 | 264 => 96 | 206 => 109 | 240 => 92 | 241 => 93 | 276 => 105 | 277 => 106 | n => n, fun | 9 => 9 | 3 => 3 | 4 => 4 | 20 => 20 | 0 => 0 | 46 => 77 | 109 => 133 | 5 => 5 | 72 => 103 | 76 => 106 | 51 => 89 | 146 => 144 | 53 => 23 | 148 => 130 | 70 => 101 | 37 => 74 | 75 => 105 | 127 => 125 | 164 => 140 | 80 => 109 | n => n, fun | n => n⟩
theorem Tryz.lays105 : Go.Proofs.Lays.n105 Tryz.prog Tryz.lays105_ren := {
 mixed := by kernel_rfl
 f99 := Tryz.func99.trans (congrArg some (by kernel_rfl))
 f105 := Tryz.func80.trans (congrArg some (by kernel_rfl))
 f165 := Tryz.func76.trans (congrArg some (by kernel_rfl))
 f166 := Tryz.func73.trans (congrArg some (by kernel_rfl))
 f169 := Tryz.func75.trans (congrArg some (by kernel_rfl))
 f170 := Tryz.func100.trans (congrArg some (by kernel_rfl))
 f206 := Tryz.func109.trans (congrArg some (by kernel_rfl))
 f212 := Tryz.func98.trans (congrArg some (by kernel_rfl))
 f240 := Tryz.func92.trans (congrArg some (by kernel_rfl))
 f241 := Tryz.func93.trans (congrArg some (by kernel_rfl))
 f263 := Tryz.func108.trans (congrArg some (by kernel_rfl))
 f264 := Tryz.func96.trans (congrArg some (by kernel_rfl))
 f276 := Tryz.func105.trans (congrArg some (by kernel_rfl))
 f277 := Tryz.func106.trans (congrArg some (by kernel_rfl))
 t0 := Tryz.underlying0
 a0 := Tryz.isAgg0
 z0 := Tryz.sizeOf0
 v0 := Tryz.zeroValue0
 t3 := Tryz.underlying3
 a3 := Tryz.isAgg3
 z3 := Tryz.sizeOf3
 v3 := Tryz.zeroValue3
 t4 := Tryz.underlying4
 a4 := Tryz.isAgg4
 z4 := Tryz.sizeOf4
 v4 := Tryz.zeroValue4
 t5 := Tryz.underlying5
 a5 := Tryz.isAgg5
 z5 := Tryz.sizeOf5
 v5 := Tryz.zeroValue5
 t9 := Tryz.underlying9
 a9 := Tryz.isAgg9
 z9 := Tryz.sizeOf9
 v9 := Tryz.zeroValue9
 t20 := Tryz.underlying20
 a20 := Tryz.isAgg20
 z20 := Tryz.sizeOf20
 v20 := Tryz.zeroValue20
 t37 := Tryz.underlying74
 a37 := Tryz.isAgg74
 z37 := Tryz.sizeOf74
 v37 := Tryz.zeroValue74
 t46 := Tryz.underlying77
 a46 := Tryz.isAgg77
 z46 := Tryz.sizeOf77
 v46 := Tryz.zeroValue77
 t51 := Tryz.underlying89
 a51 := Tryz.isAgg89
 z51 := Tryz.sizeOf89
 v51 := Tryz.zeroValue89
 t53 := Tryz.underlying23
 a53 := Tryz.isAgg23
 z53 := Tryz.sizeOf23
 v53 := Tryz.zeroValue23
 t70 := Tryz.underlying101
 a70 := Tryz.isAgg101
 z70 := Tryz.sizeOf101
 v70 := Tryz.zeroValue101
 t72 := Tryz.underlying103
 a72 := Tryz.isAgg103
 z72 := Tryz.sizeOf103
 v72 := Tryz.zeroValue103
 t75 := Tryz.underlying105
 a75 := Tryz.isAgg105
 z75 := Tryz.sizeOf105
 v75 := Tryz.zeroValue105
 t76 := Tryz.underlying106
 a76 := Tryz.isAgg106
 z76 := Tryz.sizeOf106
 v76 := Tryz.zeroValue106
 t109 := Tryz.underlying133
 a109 := Tryz.isAgg133
 z109 := Tryz.sizeOf133
 v109 := Tryz.zeroValue133
 t127 := Tryz.underlying125
 a127 := Tryz.isAgg125
 z127 := Tryz.sizeOf125
 v127 := Tryz.zeroValue125
 t146 := Tryz.underlying144
 a146 := Tryz.isAgg144
 z146 := Tryz.sizeOf144
 v146 := Tryz.zeroValue144
 t148 := Tryz.underlying130
 a148 := Tryz.isAgg130
 z148 := Tryz.sizeOf130
 v148 := Tryz.zeroValue130
 t164 := Tryz.underlying140
 a164 := Tryz.isAgg140
 z164 := Tryz.sizeOf140
 v164 := Tryz.zeroValue140 }
theorem Tryz.Builder_Extra_105 : Builder.Extra Tryz.prog Tryz.lays105_ren := {
 sizeBuilder := by kernel_rfl
 liesBuilder := by kernel_rfl
 t5 := Tryz.underlying5
 a5 := Tryz.isAgg5
 z5 := Tryz.sizeOf5
 v5 := Tryz.zeroValue5
 infoByte := by kernel_rfl
 cellsByte := by kernel_rfl
 sizeByte := by kernel_rfl
 neB5 := by decide }
open Go.RowKit Go.Lib in
theorem Tryz.strings_Repeat (s : ByteArray) (c : Nat) (w : World) (hc : c ≤ 9223372036854775807) (hlen : s.size * c ≤ 140737488355328) :
  Calls Tryz.prog 80 #[.string s, .int .i64 c] w fun e w' => e = .returned (.string ⟨(Lib.repeatL s.data.toList c).toArray⟩) ∧ Below w.heap.size w w' := Any.strings_Repeat Tryz.lays105 Tryz.Builder_Extra_105 s c w hc hlen
def Tryz.laysSlE041_f20_ren : Go.Shelf.Ren := ⟨fun | 41 => 20 | n => n, fun | 22 => 36 | 23 => 3 | 4 => 4 | n => n, fun | n => n⟩
theorem Tryz.laysSlE041_f20 : Go.Proofs.SlLaysE0.n41 Tryz.prog Tryz.laysSlE041_f20_ren := {
 mixed := by kernel_rfl
 f41 := ⟨Tryz.f20.name, by decide, Tryz.func20.trans (congrArg some (by kernel_rfl))⟩
 t4 := Tryz.underlying4
 a4 := Tryz.isAgg4
 z4 := Tryz.sizeOf4
 v4 := Tryz.zeroValue4
 t22 := Tryz.underlying36
 a22 := Tryz.isAgg36
 z22 := Tryz.sizeOf36
 v22 := Tryz.zeroValue36 }
open Go.RowKit Go.Lib in
theorem Tryz.slices_Clone (i0 : TypeInfo) (z : Value) (size bytes : Nat) (hi : Tryz.prog.info? 3 = some i0) (hz0 : i0.zero = some z) (hz1 : i0.size = size) (hz2 : i0.bytes = bytes) (hzs : z.cells.size = size) (hsz : 0 < size) (z23 : ∀ w, (Go.sizeOf 3).run Tryz.prog w = .ok size w) (b off n c : Nat) (news : List Value) (w : World) (hl : news.length = n * size) (hn : n ≤ maxLen) (hbig : n * bytes ≤ 140737488355328) (hc : ∀ j u, news[j]? = some u → w.cell? ⟨b, off + j, none⟩ = some u) (h1 : ∀ u ∈ news, u.oneCell' = true) :
  Calls Tryz.prog 20 #[.slice (some ⟨b, off, none⟩) n c] w fun e w' => ∃ v', e = .returned v' ∧ w'.ownsRow w.heap.size 3 size v' n news ∧ v' ≠ .slice none 0 0 ∧ Below w.heap.size w w' := AnyE.slices_Clone Tryz.laysSlE041_f20 i0 z size bytes hi hz0 hz1 hz2 hzs hsz z23 b off n c news w hl hn hbig hc h1
def Tryz.laysSlH10_f19_ren : Go.Shelf.Ren := ⟨fun | 10 => 19 | 6 => 38 | n => n, fun | 22 => 36 | 23 => 3 | 25 => 52 | 3 => 3 | 4 => 4 | 0 => 0 | n => n, fun | n => n⟩
theorem Tryz.laysSlH10_f19 : Go.Proofs.SlLaysH.n10 Tryz.prog Tryz.laysSlH10_f19_ren := {
 mixed := by kernel_rfl
 f6 := ⟨Tryz.f38.name, by decide, Tryz.func38.trans (congrArg some (by kernel_rfl))⟩
 f10 := ⟨Tryz.f19.name, by decide, Tryz.func19.trans (congrArg some (by kernel_rfl))⟩
 t0 := Tryz.underlying0
 a0 := Tryz.isAgg0
 z0 := Tryz.sizeOf0
 v0 := Tryz.zeroValue0
 t3 := Tryz.underlying3
 a3 := Tryz.isAgg3
 z3 := Tryz.sizeOf3
 v3 := Tryz.zeroValue3
 t4 := Tryz.underlying4
 a4 := Tryz.isAgg4
 z4 := Tryz.sizeOf4
 v4 := Tryz.zeroValue4
 t22 := Tryz.underlying36
 a22 := Tryz.isAgg36
 z22 := Tryz.sizeOf36
 v22 := Tryz.zeroValue36
 a23 := Tryz.isAgg3
 z23 := Tryz.sizeOf3
 t25 := Tryz.underlying52
 a25 := Tryz.isAgg52
 z25 := Tryz.sizeOf52
 v25 := Tryz.zeroValue52 }
open Go.RowKit Go.Lib Go.Sort in
theorem Tryz.slices_DeleteFunc {α : Type} [Inhabited α] (enc : α → Value) (hO : OneCell enc) (p : α → Bool) (g : Nat) (lb : Array Value) (eg : ∀ args w, (callFunc g args).run Tryz.prog w = .ok (.enter g args) w) (zr : α) (v23 : ∀ w, (zeroValue 3).run Tryz.prog w = .ok (enc zr) w) (blk off cap : Nat) (d : Array α) (w : World) (hp : PredAt Tryz.prog g lb enc p w) (hpo : PredOver Tryz.prog g lb enc p blk off d.size w) (hH : Holds enc w blk off d) (hsz : d.size ≤ 9223372036854775807) (hcap : d.size ≤ cap) :
  Calls Tryz.prog 19 #[.slice (some ⟨blk, off, none⟩) d.size cap, .func (.func g) #[] lb] w fun e w' => e = .returned (.slice (some ⟨blk, off, none⟩) (d.toList.filter fun x => !p x).length cap) ∧ ∃ q, w' = putRow enc (Sort.ahead w q) blk off ((d.toList.filter fun x => !p x) ++ List.replicate (d.size - (d.toList.filter fun x => !p x).length) zr).toArray := AnyE.slices_DeleteFunc Tryz.laysSlH10_f19 enc hO p g lb eg zr v23 blk off cap d w hp hpo hH hsz hcap
end Go.Proofs
end
section
namespace Go.Proofs.YtolbhliepkcihaaGreatDoor.Sha
open Go.RowKit QR Mem YtolbhliepkcihaaGreatDoorW.PrintWords YtolbhliepkcihaaGreatDoorW.PrintLast YtolbhliepkcihaaGreatDoorW.PrintMore
theorem ofNats_size (l : List Nat) : (ofNats l).size = l.length := by simp [ofNats, ByteArray.size]
def zeroText : ByteArray := ⟨#[0]⟩
theorem repeatL_zero (c : Nat) : Lib.repeatL zeroText.data.toList c = List.replicate c 0 := by
 have h : zeroText.data.toList = [0] := rfl; rw [h]
 induction c with
 | zero => rfl
 | succ c ih => rw [List.replicate_succ, ← ih]; rfl
theorem repeat_any (c : Nat) (hc : c ≤ 100) (w : World) :
  Calls Tryz.prog 80 #[.string ⟨#[0]⟩, .int .i64 (c : Int)] w fun e w' => e = .returned (.string (ofNats (List.replicate c 0))) ∧ Below w.heap.size w w' := by
 have h := Tryz.strings_Repeat zeroText c w (by omega) (by simp [zeroText, ByteArray.size]; omega); rw [repeatL_zero] at h
 have e : ofNats (List.replicate c 0) = ⟨(List.replicate c 0).toArray⟩ := by unfold ofNats; congr 2; simp
 rw [e]; exact h
def tailAt (n : Nat) (i : Nat) : Nat := n / 2 ^ (56 - 8 * i) % 256
theorem high8_eq (n : Nat) : (List.range 8).map (tailAt n) = high8 n := by
 have h : List.range 8 = [0, 1, 2, 3, 4, 5, 6, 7] := rfl; rw [h]; simp [tailAt, high8]
def tcut (n t i : Nat) : Int := if i < t then ((tailAt n i : Nat) : Int) else 0
theorem tcut_set (n t : Nat) (ht : t < 8) : (ka .u8 8 (tcut n t)).setIfInBounds t (.int .u8 ((tailAt n t : Nat) : Int)) = ka .u8 8 (tcut n (t + 1)) := by
 rw [ka_set _ _ ht]
 refine ka_ext fun i _ => ?_
 unfold tcut
 by_cases h : i = t
 ·subst h; rw [if_pos rfl, if_pos (by omega)]
 ·rw [if_neg h]
  by_cases h2 : i < t
  ·rw [if_pos h2, if_pos (by omega)]
  ·rw [if_neg h2, if_neg (by omega)]
theorem zero8b : #[Value.int .u8 0, .int .u8 0, .int .u8 0, .int .u8 0, .int .u8 0, .int .u8 0, .int .u8 0, .int .u8 0] = ka .u8 8 fun _ => 0 := rfl
theorem slice8b (g : Nat) (w : World) : (Instr.sliceAt 113 (.pointer (some ⟨g, 0, none⟩)) none none none).run Tryz.prog w = .ok (.slice (some ⟨g, 0, none⟩) 8 8) w := by
 have hu : Tryz.prog.underlying 113 = some (.array (Tryz.prog.arrayLen 113) (Tryz.prog.elem 113)) := by kernel_rfl
 have hs' : (sizeOf (Tryz.prog.elem 113)).run Tryz.prog w = .ok 1 w := by kernel_rfl
 have hl : Tryz.prog.arrayLen 113 = 8 := by kernel_rfl
 rw [run_sliceAt_array_all w 113 ⟨g, 0, none⟩ hu, hs', Result.andThen_ok, hl, slicedAt]; rfl
theorem conv8 (f : Nat → Int) (g : Nat) (w : World) (h : Blk w g 113 (ka .u8 8 f)) : (convert 74 9 (.slice (some ⟨g, 0, none⟩) 8 8)).run Tryz.prog w = .ok (.string (strOfNums ((List.range 8).map f))) w := by
 refine run_convert_bytes_arg w 74 5 Tryz.underlying74 Tryz.underlying5 g 0 8 8 ((List.range 8).map f) (by simp) (fun i hi => ?_) 9 Tryz.underlying9; rw [Nat.zero_add, h.cell, ka_at f hi]; simp [List.getElem?_range hi]
set_option maxRecDepth 100000 in
set_option maxHeartbeats 4000000 in
theorem pad_any (s : ByteArray) (hs : s.size ≤ 1099511627776) (w : World) :
  Calls Tryz.prog 58 #[.string s] w fun e w' => e = .returned (.string (padS s)) ∧ Below w.heap.size w w' := by
 have hz0 : (64 : Int) - ((s.size : Int) + 9) % 64 ≥ 1 := by omega
 obtain ⟨z, hz⟩ : ∃ z, zerosN s.size = z := ⟨_, rfl⟩
 have hz1 : ((64 : Int) - ((s.size : Int) + 9) % 64) % 64 = (z : Int) := by rw [← hz]; unfold zerosN; omega
 have hz2 : z ≤ 63 := by rw [← hz]; unfold zerosN; omega
 obtain ⟨n, hn⟩ : ∃ n, s.size * 8 = n := ⟨_, rfl⟩
 have hn1 : (s.size : Int) * 8 = (n : Int) := by omega
 have hn2 : n ≤ 8796093022208 := by omega
 have HZ := Lib.hid hz; have HN := Lib.hid hn; clear hz hn
 go_enter Tryz.func58, Tryz.ntmps58
 go_wp2; rw [zero8b, hz1]; have L0 := Blk.new w 113 (ka .u8 8 fun _ => 0); have B0 := (Below.refl w.heap.size w).alloc (Nat.le_refl _) (.cells (ka .u8 8 fun _ => 0) 113); generalize w.alloc (.cells (ka .u8 8 fun _ => 0) 113) = w1 at *
 obtain ⟨g, hg⟩ : ∃ g, w.heap.size = g := ⟨_, rfl⟩
 rw [hg] at L0 B0 ⊢; clear hz0 hz1 hn1; have HG := Lib.hid hg; clear hg
 go_loopw [17] (fun i wr => ∃ t : Nat, t ≤ 8 ∧ i = .int .i64 t ∧ Blk wr g 113 (ka .u8 8 (tcut n t)) ∧ Below g w wr) (fun i _ => 8 - (intOf i).toNat)
 case atStart => exact ⟨0, by omega, rfl, L0, B0⟩
 case round =>
  clear L0 B0; obtain ⟨t, ht, rfl, L0, b0⟩ := hrel
  by_cases hlt : t < 8
  ·obtain ⟨c, hc⟩ : ∃ c, 56 - 8 * t = c := ⟨_, rfl⟩
   have hc1 : (56 : Int) - 8 * (t : Int) = (c : Int) := by omega
   have hc2 : (c : Int) ≤ 56 := by omega
   have hc0 : (0 : Int) ≤ (c : Int) := by omega
   have i0 : (0 : Int) ≤ (t : Int) := by omega
   have i1 : (t : Int) < 8 := by omega
   have ct := L0.cell t; rw [ka_at _ hlt] at ct; have ft := L0.frozen t; have HC := Lib.hid hc; clear hc; go_wp2
   go_roundw
   case rel =>
    refine ⟨t + 1, by omega, by go_num, ?_, b0.setCell (p := ⟨g, t, none⟩) (Nat.le_refl _) _⟩; have H3 := L0.set_ t (.int .u8 ((tailAt n t : Nat) : Int)); rw [tcut_set n t hlt] at H3; rw [show ((tailAt n t : Nat) : Int) = (n : Int) / 2 ^ c % 256 by unfold tailAt; rw [HC.out]; norm_cast] at H3; exact H3
   case measure => simp [intOf]; omega
  ·obtain rfl : t = 8 := by omega
   rw [show ((8 : Nat) : Int) = 8 from rfl]; go_wp2
   have e8 : ka .u8 8 (tcut n 8) = ka .u8 8 fun i => ((tailAt n i : Nat) : Int) := ka_ext fun i hi => if_pos hi
   rw [e8] at L0; clear e8; have hsl := slice8b g; have hcv0 := conv8 (fun i => ((tailAt n i : Nat) : Int)) g wr.drew L0.drew
   have hcat : s.size + 1 ≤ 9223372036854775807 := by omega
   have hq1 : (ofNats (List.replicate z 0)).size = z := by rw [ofNats_size]; simp
   have hq2 : (strOfNums ((List.range 8).map fun (i : Nat) => ((tailAt n i : Nat) : Int))).size = 8 := by rw [strOfNums_size]; simp
   have hrep := fun W : World => repeat_any z (by omega) W
   generalize hzt : ofNats (List.replicate z 0) = zt at *; have HREP := Lib.hid hrep; have HZT := Lib.hid hzt; clear hrep hzt
   have hcv9 := fun W h => conv8 (fun i => ((tailAt n i : Nat) : Int)) g W h
   generalize htt : strOfNums ((List.range 8).map fun (i : Nat) => ((tailAt n i : Nat) : Int)) = tt at *; have HTT := Lib.hid htt; have HCV := Lib.hid hcv9; clear htt hcv9
   have hq3 : s.size + 1 + z ≤ 9223372036854775807 := by omega
   have hq4 : s.size + 1 + z + 8 ≤ 9223372036854775807 := by omega
   have hgl := L0.lt
   have HP : Hid (padS s = ((s ++ ⟨#[128]⟩) ++ zt) ++ tt) := Lib.hid (by
    unfold padS; rw [HZ.out, HZT.out, HN.out, Nat.mod_eq_of_lt (by omega), ← high8_eq, ← ofNats_eq, ← HTT.out]; unfold ints; rw [List.map_map]
    rfl)
   go_region_with ((go_at_call 80; refine (HREP.out _).mono ?_; rintro e w5 ⟨rfl, hb5⟩; have L5 := L0.drew.below hb5 L0.lt; have hcv5 := HCV.out w5 L5))
   all_goals go_wp2
   all_goals go_ret
   all_goals exact ⟨by (show Ending.returned (.string (((s ++ ⟨#[128]⟩) ++ zt) ++ tt)) = _); rw [HP.out], by rw [HG.out]; exact (Mem.below_drew b0).trans (hb5.mono (by simp; omega))⟩
end Go.Proofs.YtolbhliepkcihaaGreatDoor.Sha
end
section
namespace Go.Proofs.YtolbhliepkcihaaGreatDoor.Sha
open Go.RowKit Mem
def W64 : Nat := 18446744073709551616
def mulHi (x y : Nat) : Nat := x * y / W64
def mulLo (x y : Nat) : Nat := x * y % W64
theorem mulHi_lt {x y : Nat} (hx : x < W64) (hy : y < W64) : mulHi x y < W64 := by
 unfold mulHi; rw [Nat.div_lt_iff_lt_mul (by decide)]; exact Nat.mul_lt_mul'' hx hy
theorem mulLo_lt (x y : Nat) : mulLo x y < W64 := Nat.mod_lt _ (by decide)
theorem mul_any (x y : Nat) (hx : x < W64) (hy : y < W64) (w : World) :
  Calls Tryz.prog 96 #[.int .u64 (x : Int), .int .u64 (y : Int)] w fun e w' => e = .returned (.tuple #[.int .u64 ((mulHi x y : Nat) : Int), .int .u64 ((mulLo x y : Nat) : Int)]) ∧ w' = w := Tryz.bits_Mul64 x y hx hy w
def sqB (x p : Nat) : Bool := decide (mulHi x x < p) || (decide (mulHi x x = p) && decide (mulLo x x = 0))
def sumN (x y : Nat) : Nat := (x + y) % W64
def moreN (x y : Nat) : Nat := (x + y) / W64
def cubeB (x p : Nat) : Bool :=
 decide (sumN (mulHi (mulHi x x) x) (moreN (mulLo (mulHi x x) x) (mulHi (mulLo x x) x)) = 0) &&
  (decide (sumN (mulLo (mulHi x x) x) (mulHi (mulLo x x) x) < p * 4294967296 % W64) || (decide (sumN (mulLo (mulHi x x) x) (mulHi (mulLo x x) x) = p * 4294967296 % W64) && decide (mulLo (mulLo x x) x = 0)))
theorem add_run (x y : Nat) (_hx : x < W64) (_hy : y < W64) (w : World) :
  (callFunc 97 #[.int .u64 (x : Int), .int .u64 (y : Int), .int .u64 0]).run Tryz.prog w = .ok (.value (.tuple #[.int .u64 ((sumN x y : Nat) : Int), .int .u64 ((moreN x y : Nat) : Int)])) w := by
 have h1 := run_callFunc_extern (P := Tryz.prog) Tryz.func97 (by kernel_rfl) (by kernel_rfl) (by kernel_rfl) (e := add64Entry) (by kernel_rfl) #[.int .u64 (x : Int), .int .u64 (y : Int), .int .u64 0] w; rw [h1, run_add64 _ _ _ (by omega) (by omega) (by omega) (by omega)]; simp only [Result.andThen, sumN, moreN, W64]
 congr 5 <;> omega
set_option maxRecDepth 100000 in
theorem square_any (x p : Nat) (hx : x < W64) (w : World) :
  Calls Tryz.prog 79 #[.int .u64 (x : Int), .int .u64 (p : Int)] w fun e w' => e = .returned (.bool (sqB x p)) ∧ w' = w := by
 have HM := Lib.hid (mul_any x x hx hx w); unfold sqB; generalize mulHi x x = a at *; generalize mulLo x x = b at *; clear hx
 go_enter Tryz.func79, Tryz.ntmps79
 go_wp2_with (go_at_call 96; refine (HM.out).mono ?_; rintro e w' ⟨rfl, rfl⟩)
 all_goals go_ret
 all_goals refine ⟨congrArg (fun b => Ending.returned (Value.bool b)) ?_, rfl⟩
 all_goals (rw [Bool.eq_iff_iff]; simp)
 all_goals omega
theorem wrap_u64 (n : Int) : IntKind.u64.wrap n = n % 18446744073709551616 := by simp [IntKind.wrap, IntKind.bits, IntKind.signed]
theorem wrapN_add (x y : Nat) : IntKind.u64.wrap ((x : Int) + (y : Int)) = ((sumN x y : Nat) : Int) := by
 rw [wrap_u64]; unfold sumN W64; omega
theorem wrapN_mul (x y : Nat) : IntKind.u64.wrap ((x : Int) * (y : Int)) = ((mulLo x y : Nat) : Int) := by
 rw [wrap_u64]; unfold mulLo W64; rw [← Int.natCast_mul]; omega
set_option maxRecDepth 100000 in
theorem cube_any (x p : Nat) (hx : x < W64) (w : World) :
  Calls Tryz.prog 78 #[.int .u64 (x : Int), .int .u64 (p : Int)] w fun e w' => e = .returned (.bool (cubeB x p)) ∧ w' = w := by
 have HM1 := Lib.hid (mul_any x x hx hx w); have HM2 := Lib.hid (mul_any (mulHi x x) x (mulHi_lt hx hx) hx w); have HM3 := Lib.hid (mul_any (mulLo x x) x (mulLo_lt _ _) hx w); have HA := add_run (mulLo (mulHi x x) x) (mulHi (mulLo x x) x) (mulLo_lt _ _) (mulHi_lt (mulLo_lt _ _) hx); unfold cubeB; generalize mulHi x x = a at *; generalize hb : mulLo x x = b at *; generalize mulHi a x = c at *; generalize mulLo a x = d at *; generalize mulHi b x = f at *; have E2 : IntKind.u64.wrap ((b : Int) * (x : Int)) = ((mulLo b x : Nat) : Int) := wrapN_mul b x; generalize mulLo b x = l at *; generalize sumN d f = u at *; generalize moreN d f = m at *; have E1 : IntKind.u64.wrap ((c : Int) + (m : Int)) = ((sumN c m : Nat) : Int) := wrapN_add c m; generalize sumN c m = t at *; have E3 : IntKind.u64.wrap ((p : Int) * 4294967296) = ((p * 4294967296 % W64 : Nat) : Int) := wrapN_mul p 4294967296; generalize p * 4294967296 % W64 = v at *; have HB := Lib.hid hb; have HAH := Lib.hid HA; clear hx hb HA
 go_enter Tryz.func78, Tryz.ntmps78
 go_wp2_with (first | (go_at_call 96; first | ((with_reducible refine (HM1.out).mono ?_); rintro e w' ⟨rfl, rfl⟩) | ((with_reducible refine (HM2.out).mono ?_); rintro e w' ⟨rfl, rfl⟩) | ((with_reducible refine (HM3.out).mono ?_); rintro e w' ⟨rfl, rfl⟩)))
 rw [HAH.out]; clear HAH
 go_upto_region 8 with (fail)
 clear E1 E2 E3
 by_cases ht : t = 0
 ·have t1 : ((t : Int) == 0) = true := by rw [beq_iff_eq]; omega
  by_cases huv : u < v
  ·have t2 := qj huv; have HT := Lib.hid ht; clear ht; go_wp2; go_ret; exact ⟨by simp [HT.out, huv], rfl⟩
  ·have t2 := decide_eq_false huv
   by_cases hq : u = v
   ·have t3 : ((u : Int) == (v : Int)) = true := by rw [beq_iff_eq]; omega
    have HT := Lib.hid ht; have HQ := Lib.hid hq; clear ht hq
    by_cases hl : l = 0
    ·have t4 : ((l : Int) == 0) = true := by rw [beq_iff_eq]; omega
     have HL := Lib.hid hl; clear hl; go_wp2; go_ret; exact ⟨by simp [HT.out, HQ.out, HL.out], rfl⟩
    ·have t4 : ((l : Int) == 0) = false := by rw [beq_eq_false_iff_ne]; omega
     go_wp2; go_ret; exact ⟨by simp [hl, huv], rfl⟩
   ·have t3 : ((u : Int) == (v : Int)) = false := by rw [beq_eq_false_iff_ne]; omega
    have HT := Lib.hid ht; clear ht; go_wp2; go_ret; exact ⟨by simp [huv, hq], rfl⟩
 ·have t1 : ((t : Int) == 0) = false := by rw [beq_eq_false_iff_ne]; omega
  go_wp2; go_ret; exact ⟨by simp [ht], rfl⟩
end Go.Proofs.YtolbhliepkcihaaGreatDoor.Sha
end
section
namespace Go.Proofs.YtolbhliepkcihaaGreatDoor.Sha
open Go.RowKit Mem
def rootGo (is : Nat → Nat → Bool) (p : Nat) : Nat → Nat → Nat
 | 0, out => out
 | n + 1, out => rootGo is p n (if is (out ||| 2 ^ n) p then out ||| 2 ^ n else out)
def rootN (is : Nat → Nat → Bool) (p : Nat) : Nat := rootGo is p 38 0 % 4294967296
theorem half (n : Nat) (hn : 0 < n) : ((2 ^ n / 2 : Nat) : Int) / 2 = ((2 ^ (n - 1) / 2 : Nat) : Int) := by
 obtain ⟨m, rfl⟩ : ∃ m, n = m + 1 := ⟨n - 1, by omega⟩
 rw [Nat.pow_succ, Nat.mul_div_cancel _ (by decide), Nat.add_sub_cancel]
 omega
theorem bit_pos (n : Nat) (hn : 0 < n) : 0 < 2 ^ n / 2 := by
 obtain ⟨m, rfl⟩ : ∃ m, n = m + 1 := ⟨n - 1, by omega⟩
 rw [Nat.pow_succ, Nat.mul_div_cancel _ (by decide)]; exact Nat.pow_pos (by decide)
theorem bit_lt (n : Nat) (hn : n ≤ 38) : 2 ^ n / 2 < 274877906944 := by
 have : 2 ^ n ≤ 2 ^ 38 := Nat.pow_le_pow_right (by decide) hn
 omega
theorem or38 {a b : Nat} (ha : a < 274877906944) (hb : b < 274877906944) : a ||| b < 274877906944 := Nat.or_lt_two_pow (n := 38) ha hb
theorem rootGo_step (is : Nat → Nat → Bool) (p n out : Nat) (hn : 0 < n) : rootGo is p n out = rootGo is p (n - 1) (if is (out ||| 2 ^ n / 2) p then out ||| 2 ^ n / 2 else out) := by
 obtain ⟨m, rfl⟩ : ∃ m, n = m + 1 := ⟨n - 1, by omega⟩
 rw [Nat.pow_succ, Nat.mul_div_cancel _ (by decide), Nat.add_sub_cancel]; rfl
set_option maxRecDepth 100000 in
set_option maxHeartbeats 2000000 in
theorem root_square (p : Nat) (w : World) :
  Calls Tryz.prog 95 #[.int .u64 (p : Int), .func (.func 79) #[] #[]] w fun e w' => e = .returned (.int .u32 ((rootN sqB p : Nat) : Int)) ∧ w' = w := by
 go_enter Tryz.func95, Tryz.ntmps95
 go_wp2
 obtain ⟨R, hR⟩ : ∃ R, rootGo sqB p 38 0 = R := ⟨_, rfl⟩
 go_loop [5, 6] (fun o b => ∃ (n out : Nat), n ≤ 38 ∧ out < 274877906944 ∧ o = .int .u64 (out : Int) ∧ b = .int .u64 ((2 ^ n / 2 : Nat) : Int) ∧ Hid (rootGo sqB p n out = R)) (fun _ b => (intOf b).toNat)
 case atStart => exact ⟨38, 0, by omega, by decide, rfl, rfl, Lib.hid hR⟩
 case round =>
  obtain ⟨n, out, hn, ho, rfl, rfl, HG⟩ := hrel; have HR := Lib.hid hR; clear hR
  by_cases h0 : 0 < n
  ·have hb := bit_pos n h0; have hb2 := bit_lt n hn; have hh := half n h0; have hs := rootGo_step sqB p n out h0
   have hnx : 2 ^ (n - 1) / 2 < 2 ^ n / 2 := by
    obtain ⟨m, rfl⟩ : ∃ m, n = m + 1 := ⟨n - 1, by omega⟩
    rw [Nat.pow_succ, Nat.mul_div_cancel _ (by decide), Nat.add_sub_cancel]; exact Nat.div_lt_self (Nat.pow_pos (by decide)) (by decide)
   have hi := bit_lt (n - 1) (by omega); generalize 2 ^ n / 2 = b at *; generalize hc : 2 ^ (n - 1) / 2 = c at *; have HCC := Lib.hid hc; clear hc; have hor := or38 ho hb2; have hbo : bits .or .u64 (out : Int) (b : Int) = ((out ||| b : Nat) : Int) := u64_or_nat out b (by omega) (by omega)
   generalize out ||| b = q at *
   have hq : q < W64 := by unfold W64; omega
   have HS := Lib.hid hs; have HC := Lib.hid (square_any q p hq); clear hs hq
   have hp0 : (0 : Int) < (b : Int) := by omega
   by_cases his : sqB q p = true
   ·rw [his] at HC HS
    go_wp2_with (go_at_call 79; refine (HC.out _).mono ?_; rintro e w' ⟨rfl, rfl⟩)
    go_round
    case rel => exact ⟨n - 1, q, by omega, hor, rfl, by rw [HCC.out], Lib.hid (by have h := HS.out; simp only [if_true] at h; exact h.symm.trans HG.out)⟩
    case measure => simp [intOf]; omega
   ·have his' : sqB q p = false := by simpa using his
    rw [his'] at HC HS; clear his
    go_wp2_with (go_at_call 79; refine (HC.out _).mono ?_; rintro e w' ⟨rfl, rfl⟩)
    go_round
    case rel => exact ⟨n - 1, out, by omega, ho, rfl, by rw [HCC.out], Lib.hid (by have h := HS.out; rw [if_neg (by simp)] at h; exact h.symm.trans HG.out)⟩
    case measure => simp [intOf]; omega
  ·obtain rfl : n = 0 := by omega
   go_wp2; go_ret; have hg : out = R := HG.out; refine ⟨?_, rfl⟩
   show Ending.returned (.int .u32 _) = _
   congr 2
   unfold rootN; rw [HR.out, ← hg]
   omega
set_option maxRecDepth 100000 in
set_option maxHeartbeats 2000000 in
theorem root_cube (p : Nat) (w : World) :
  Calls Tryz.prog 95 #[.int .u64 (p : Int), .func (.func 78) #[] #[]] w fun e w' => e = .returned (.int .u32 ((rootN cubeB p : Nat) : Int)) ∧ w' = w := by
 go_enter Tryz.func95, Tryz.ntmps95
 go_wp2
 obtain ⟨R, hR⟩ : ∃ R, rootGo cubeB p 38 0 = R := ⟨_, rfl⟩
 go_loop [5, 6] (fun o b => ∃ (n out : Nat), n ≤ 38 ∧ out < 274877906944 ∧ o = .int .u64 (out : Int) ∧ b = .int .u64 ((2 ^ n / 2 : Nat) : Int) ∧ Hid (rootGo cubeB p n out = R)) (fun _ b => (intOf b).toNat)
 case atStart => exact ⟨38, 0, by omega, by decide, rfl, rfl, Lib.hid hR⟩
 case round =>
  obtain ⟨n, out, hn, ho, rfl, rfl, HG⟩ := hrel; have HR := Lib.hid hR; clear hR
  by_cases h0 : 0 < n
  ·have hb := bit_pos n h0; have hb2 := bit_lt n hn; have hh := half n h0; have hs := rootGo_step cubeB p n out h0
   have hnx : 2 ^ (n - 1) / 2 < 2 ^ n / 2 := by
    obtain ⟨m, rfl⟩ : ∃ m, n = m + 1 := ⟨n - 1, by omega⟩
    rw [Nat.pow_succ, Nat.mul_div_cancel _ (by decide), Nat.add_sub_cancel]; exact Nat.div_lt_self (Nat.pow_pos (by decide)) (by decide)
   have hi := bit_lt (n - 1) (by omega); generalize 2 ^ n / 2 = b at *; generalize hc : 2 ^ (n - 1) / 2 = c at *; have HCC := Lib.hid hc; clear hc; have hor := or38 ho hb2; have hbo : bits .or .u64 (out : Int) (b : Int) = ((out ||| b : Nat) : Int) := u64_or_nat out b (by omega) (by omega)
   generalize out ||| b = q at *
   have hq : q < W64 := by unfold W64; omega
   have HS := Lib.hid hs; have HC := Lib.hid (cube_any q p hq); clear hs hq
   have hp0 : (0 : Int) < (b : Int) := by omega
   by_cases his : cubeB q p = true
   ·rw [his] at HC HS
    go_wp2_with (go_at_call 78; refine (HC.out _).mono ?_; rintro e w' ⟨rfl, rfl⟩)
    go_round
    case rel => exact ⟨n - 1, q, by omega, hor, rfl, by rw [HCC.out], Lib.hid (by have h := HS.out; simp only [if_true] at h; exact h.symm.trans HG.out)⟩
    case measure => simp [intOf]; omega
   ·have his' : cubeB q p = false := by simpa using his
    rw [his'] at HC HS; clear his
    go_wp2_with (go_at_call 78; refine (HC.out _).mono ?_; rintro e w' ⟨rfl, rfl⟩)
    go_round
    case rel => exact ⟨n - 1, out, by omega, ho, rfl, by rw [HCC.out], Lib.hid (by have h := HS.out; rw [if_neg (by simp)] at h; exact h.symm.trans HG.out)⟩
    case measure => simp [intOf]; omega
  ·obtain rfl : n = 0 := by omega
   go_wp2; go_ret; have hg : out = R := HG.out; refine ⟨?_, rfl⟩
   show Ending.returned (.int .u32 _) = _
   congr 2
   unfold rootN; rw [HR.out, ← hg]
   omega
end Go.Proofs.YtolbhliepkcihaaGreatDoor.Sha
end
section
namespace Go.Proofs.YtolbhliepkcihaaGreatDoor.Sha
def primeL : List Nat := [2, 3, 5, 7, 11, 13, 17, 19, 23, 29, 31, 37, 41, 43, 47, 53, 59, 61, 67, 71, 73, 79, 83, 89, 97, 101, 103, 107, 109, 113, 127, 131, 137, 139, 149, 151, 157, 163, 167, 173, 179, 181, 191, 193, 197, 199, 211, 223, 227, 229, 233, 239, 241, 251, 257, 263, 269, 271, 277, 281, 283, 293, 307, 311, 313]
def primeN (k : Nat) : Nat := primeL.getD k 0
def startL : List Nat := [0x6a09e667, 0xbb67ae85, 0x3c6ef372, 0xa54ff53a, 0x510e527f, 0x9b05688c, 0x1f83d9ab, 0x5be0cd19]
theorem starts_eq : (primeL.take 8).map (rootN sqB) = startL := by decide +kernel
theorem keys_eq : (primeL.take 64).map (rootN cubeB) = keyL := by decide +kernel
def noDiv (n : Nat) : Nat → Bool
 | 0 => true
 | d + 1 => noDiv n d && (d < 2 || n % d != 0)
def cntP (n : Nat) : Nat := (primeL.filter (· < n)).length
def rootUp (n : Nat) : Nat := ((List.range 20).filter fun d => 2 ≤ d ∧ d * d ≤ n).length + 2
theorem up_ok : ∀ n, n < 314 → 2 ≤ n → (∀ d, d < 20 → 2 ≤ d → (d < rootUp n ↔ d * d ≤ n)) ∧ rootUp n < 20 := by decide +kernel
theorem prime_ok : ∀ n, n < 314 → 2 ≤ n → (noDiv n (rootUp n) = true → primeN (cntP n) = n ∧ cntP (n + 1) = cntP n + 1) ∧ (noDiv n (rootUp n) = false → cntP (n + 1) = cntP n) := by decide +kernel
theorem cnt_last : ∀ n, n < 315 → cntP n < 65 → n < 314 := by decide +kernel
theorem cnt_two : cntP 2 = 0 := by decide +kernel
end Go.Proofs.YtolbhliepkcihaaGreatDoor.Sha
end
section
namespace Go.Proofs.YtolbhliepkcihaaGreatDoor.Until
open Go.RowKit
variable {F : Fence} {n : Nat} {P : Program}
def SeqUntil (F : Fence) (n : Nat) (P : Program) (g : Nat) (lb : Array Value) (enc : Nat → Value) (N : Nat) (n₀ : Nat) : Prop :=
 ∀ (l : Nat) (J : Nat → World → Prop) (Jx : World → Prop) (W : World), n₀ ≤ W.heap.size → AbidesFrom W.heap.size J → (∀ k W1, J k W1 → k < N) →
  (∀ k W1, J k W1 → YieldAt F (n - 1) P l #[enc k] W1 fun e W' => (e = .returned (.bool true) ∧ J (k + 1) W' ∧ Below n₀ W1 W') ∨ (e = .returned (.bool false) ∧ Jx W')) →
  J 0 W → CallsIn F n P g (#[.func (.yield l) #[] #[]] ++ lb) W fun e W' => (∃ v, e = .returned v) ∧ Jx W'
def leftBy (B : Nat) (n₀ : Nat) (I : Nat → World → Prop) (Ix : Nat → World → Prop) (k : Nat) (W : World) : Exit → Act → World → Prop
 | .normal, _, W' => KeepsFrom B W W' ∧ Below n₀ W W' ∧ I (k + 1) W'
 | .exit id, _, W' => KeepsFrom B W W' ∧ Ix id W'
 | _, _, _ => False
theorem wpIn_until {g : Operand} {ps : Array Tmp} {assign body : Code} {Q : Exit → Act → World → Prop} {a : Act} {w : World}
  (hro : F.round = none) (h1 : 1 ≤ n) {gf : Nat} {lb : Array Value} (hg : a.eval g = .func (.func gf) #[] lb) (hFg : F.fn gf) (eg : ∀ args w, (callFunc gf args).run P w = .ok (.enter gf args) w)
  {enc : Nat → Value} {N n₀ : Nat} (hseq : SeqUntil F (n - 1) P gf lb enc N n₀) (hn₀ : n₀ ≤ w.heap.size) (hps : ps.size = 1)
  (I : Nat → World → Prop) (Ix : Nat → World → Prop) (hI : OwnFrom w.heap.size I) (hIx : OwnFrom w.heap.size Ix) (hN : ∀ k W, I k W → k < N) (h0 : I 0 w) (a₁ : Nat → Act)
  (hassign : ∀ (l : Nat) (k : Nat) (W : World) (K : Act → World → Prop), K (a₁ k) W →
   assign.wpIn (F.inRound l) (n - 1 - 1) P (Exit.then K (fun _ _ _ => False)) { tmps := (ps.zip #[enc k]).foldl (fun t (p, v) => t.setIfInBounds p v) a.tmps, defers := [] } W)
  (hbody : ∀ (l : Nat) (k : Nat) (W : World), I k W → body.wpIn (F.inRound l) (n - 1 - 1) P (leftBy w.heap.size n₀ I Ix k W) (a₁ k) W)
  (hstop : ∀ (D : Nat) (id : Nat) (W : World), w.heap.size ≤ D → Ix id W → W.heap[D]? = some (.deferred (some [])) → (Code.exit id).wpIn F n P Q { a with defers := { target := .collected D, args := #[] } :: a.defers } W) :
  (Code.rangeFunc g ps assign body).wpIn F n P Q a w := by
 refine wpIn_rangeFunc fun fn hfn => ?_
 rw [hro]
 let D := w.heap.size
 let L := w.heap.size + 1
 let rc : LoopState → Option Code → Loop := fun st pe => { state := st, pending := pe, fn, tmps := a.tmps, params := ps, assign, body, defers := D }
 obtain ⟨W1, hW1⟩ : ∃ W1, (w.alloc (.deferred (some []))).alloc (.loop (rc .ready none)) = W1 := ⟨_, rfl⟩
 have hL1 : W1.heap[L]? = some (.loop (rc .ready none)) := by
  rw [← hW1]; have := World.alloc_heap_new (w.alloc (.deferred (some []))) (.loop (rc .ready none)); rwa [World.size_alloc] at this
 have hD1 : W1.heap[D]? = some (.deferred (some [])) := by
  rw [← hW1]; exact (Below.heap_alloc _ _ _ (by simp [D])).trans (World.alloc_heap_new w _)
 have hz1 : W1.heap.size = w.heap.size + 2 := by rw [← hW1]; simp
 have hI1 : I 0 W1 := by rw [← hW1]; exact hI.alloc _ (hI.alloc _ h0)
 refine ⟨L, [{ target := .collected D, args := #[] }], W1, { target := .fn (.func gf) lb, args := #[.func (.yield L) #[] #[]] }, W1, gf, #[.func (.yield L) #[] #[]] ++ lb, W1, ?_, ?_, ?_, ?_, fun _ => h1, ?_⟩
 ·rw [← hW1]; exact run_enterLoop_outer _ _ _ _ _
 (simp only [resolve, hg]; simp [go_sem]); (intro f' hf'; simp [Target.leads] at hf'; subst hf'; exact hFg)
 ·simp [invoke, go_sem, eg]
 ·refine (hseq L (fun k W => I k W ∧ W.heap[L]? = some (.loop (rc .ready none)) ∧ W.heap[D]? = some (.deferred (some [])))
   (fun W => ∃ id, Ix id W ∧ W.heap[L]? = some (.loop (rc .done (some (.exit id)))) ∧ W.heap[D]? = some (.deferred (some [])))
   W1 (by omega) ?_ (fun k W h => hN k W h.1) ?_ ⟨hI1, hL1, hD1⟩).mono ?_
  ·intro s A B row hs hg' hr; refine ⟨hI s A B row hs.1 hg' (fun r e => ?_), (grownBy_keeps hg' (fun r e => (hr r e).2) hs.2.1 rfl).trans hs.2.1, (grownBy_keeps hg' (fun r e => (hr r e).2) hs.2.2 rfl).trans hs.2.2⟩; obtain ⟨hB, o, ho, hw⟩ := hr r e; exact ⟨by omega, o, ho, Obj.not_cells_of_walk hw⟩
  ·rintro k W ⟨hi, hl, hd⟩
   have hlt : L < W.heap.size := (Array.getElem?_eq_some_iff.1 hl).1; refine ⟨fn, _, assign, body, run_yield (P := P) (args := #[enc k]) hl (by simp [rc, hps]), roundIn_of_wpIn hfn (hassign _ k W _ ⟨_, run_beginRound hl rfl, ?_⟩)⟩; have hl2 : (W.putObj L (.loop { rc .ready none with state := .busy })).heap[L]? = some (.loop { rc .ready none with state := .busy }) := World.putObj_heap_same hlt; have hd2 : (W.putObj L (.loop { rc .ready none with state := .busy })).heap[D]? = some (.deferred (some [])) := (World.putObj_heap_other (by simp [D, L])).trans hd; have hk1 : Below n₀ W (W.putObj L (.loop { rc .ready none with state := .busy })) := (Below.refl n₀ W).grown (grownBy_putObj' W L _) (by simp [L] at hlt; omega) (fun j e => by cases e; simp [L]; omega); refine wpIn_mono (hbody _ k _ (hI.putObj _ hi (by simp [L]) hl rfl)) ?_; intro e a3 W3 hp
   have fin : ∀ (jump : Option Code), KeepsFrom w.heap.size (W.putObj L (.loop { rc .ready none with state := .busy })) W3 →
     (Instr.endRound L jump).run P W3 = .ok (.bool jump.isNone) (W3.putObj L (.loop (rc (if jump.isNone then .ready else .done) jump))) ∧ W3.heap[L]? = some (.loop { rc .ready none with state := .busy }) ∧
     (W3.putObj L (.loop (rc (if jump.isNone then .ready else .done) jump))).heap[L]? = some (.loop (rc (if jump.isNone then .ready else .done) jump)) ∧
     (W3.putObj L (.loop (rc (if jump.isNone then .ready else .done) jump))).heap[D]? = some (.deferred (some [])) := fun jump hk3 => by
    have hl3 := hk3.same _ _ (by simp [L]) hl2 rfl; exact ⟨run_endRound (P := P) jump hl3, hl3, World.putObj_heap_same (Array.getElem?_eq_some_iff.1 hl3).1, (World.putObj_heap_other (by simp [D, L])).trans (hk3.same _ _ (by simp [D]) hd2 rfl)⟩
   cases e with
   | normal =>
    obtain ⟨hk3, hb3, hi3⟩ := hp; obtain ⟨hr, hl3, hl4, hd4⟩ := fin none hk3; refine ⟨_, _, hr, .inl ⟨rfl, ⟨hI.putObj _ hi3 (by simp [L]) hl3 rfl, hl4, hd4⟩, (hk1.trans hb3).trans ?_⟩⟩; exact (Below.refl n₀ W3).grown (grownBy_putObj' W3 L _) (by have := (Array.getElem?_eq_some_iff.1 hl3).1; simp [L] at this; omega) (fun j e => by cases e; simp [L]; omega)
   | exit id =>
    obtain ⟨hk3, hi3⟩ := hp; obtain ⟨hr, hl3, hl4, hd4⟩ := fin (some (.exit id)) hk3; exact ⟨_, _, hr, .inr ⟨rfl, id, hIx.putObj _ hi3 (by simp [L]) hl3 rfl, hl4, hd4⟩⟩
   | ret => exact hp.elim
   | goto t => exact hp.elim
   | panic ch => exact hp.elim
   | outgrown => exact hp.elim
  ·rintro e W2 ⟨⟨v, rfl⟩, id, hi, hl, hd⟩
   exact ⟨some (.exit id), _, run_endLoop (P := P) hl (by simp [rc]), hstop _ id _ (Nat.le_refl _) (hIx.putObj _ hi (by simp [L]) hl rfl) ((World.putObj_heap_other (by simp [D, L])).trans hd)⟩
end Go.Proofs.YtolbhliepkcihaaGreatDoor.Until
end
section
namespace Go.Proofs.YtolbhliepkcihaaGreatDoor.Sha
open Go.RowKit Go.Shelf Mem Until
attribute [local go_sem] Oper.semAt_some
theorem noDiv_succ (n d : Nat) (h : 2 ≤ d) : noDiv n (d + 1) = (noDiv n d && (n % d != 0)) := by
 have : ¬ d < 2 := by omega
 simp [noDiv, this]
theorem noDiv_two (n : Nat) : noDiv n 2 = true := by simp [noDiv]
set_option maxRecDepth 100000 in
set_option maxHeartbeats 4000000 in
theorem primes_iter (F : Fence) (n : Nat) (hF : F.fn 107) (hro : F.round = none) (hn : 1 ≤ n) (N n₀ : Nat) (hN65 : N ≤ 65) :
  SeqUntil F n Tryz.prog 107 #[] (fun k => .int .u64 ((primeN k : Nat) : Int)) N n₀ := by
 intro l J Jx W hW hA hJN hY h0; refine callsIn_of_wp Tryz.func107 rfl hF ?_ hro; simp only [Tryz.ntmps107, List.size_toArray, List.length_cons, List.length_nil, Nat.reduceAdd, Nat.reduceSub, Array.replicate_succ, Array.replicate_zero, List.push_toArray, List.append_toArray, List.nil_append, List.cons_append]
 gi_wp2
 gi_loopw [2, 3, 4] (fun nv _ _ wr => ∃ m : Nat, 2 ≤ m ∧ m < 314 ∧ nv = .int .u64 (m : Int) ∧ J (cntP m) wr) (fun nv _ _ _ => 400 - (intOf nv).toNat)
 case atStart => exact ⟨2, by omega, by omega, rfl, by rw [cnt_two]; exact h0⟩
 case round =>
  obtain ⟨m, hm2, hm3, rfl, hJ⟩ := hrel; have hup := up_ok m hm3 hm2; have hpr := prime_ok m hm3 hm2; have hlt20 := hup.2; have hsq := hup.1; clear hup
  have hD2 : 2 ≤ rootUp m := by unfold rootUp; omega
  generalize rootUp m = D at *; have HPR := Lib.hid hpr; have HSQ := Lib.hid hsq; clear hpr hsq
  gi_wp2
  gi_loopw [3, 4] (fun pv dv wi => ∃ d : Nat, 2 ≤ d ∧ d ≤ D ∧ dv = .int .u64 (d : Int) ∧ pv = .bool (noDiv m d) ∧ wi = wr) (fun _ dv _ => D - (intOf dv).toNat)
  case atStart => exact ⟨2, by omega, hD2, rfl, by rw [noDiv_two], rfl⟩
  case round =>
   rename_i wi _; obtain ⟨d, hd2, hdD, rfl, rfl, rfl⟩ := hrel
   have h20 : d < 20 := by omega
   have hdd : d * d < 400 := by
    have : d * d ≤ 19 * 19 := Nat.mul_le_mul (by omega) (by omega)
    omega
   have hle := HSQ.out d h20 hd2; generalize hq : d * d = q at *
   have e1 : IntKind.u64.wrap ((d : Int) * (d : Int)) = (q : Int) := by rw [← hq, wrapN_mul]; unfold mulLo W64; rw [Nat.mod_eq_of_lt (by omega)]
   have HQ := Lib.hid hq; clear hq
   have p0 : (0 : Int) ≤ (d : Int) := by omega
   have p1 : (1 : Int) ≤ (d : Int) := by omega
   by_cases hlt : d < D
   ·have t1 : decide (q ≤ m) = true := qj (hle.1 hlt); have hns := noDiv_succ m d hd2
    obtain ⟨r, hr⟩ : ∃ r, m % d = r := ⟨_, rfl⟩
    rw [hr] at hns
    have e2 : (m : Int) % (d : Int) = (r : Int) := by rw [← hr]; norm_cast
    have HR := Lib.hid hr; clear hr
    by_cases hp : noDiv m d = true
    ·rw [hp] at hns ⊢
     by_cases hr0 : r = 0
     ·have hns' : noDiv m (d + 1) = false := by rw [hns, hr0]; rfl
      have HNS := Lib.hid hns'
      have e3 : ((r : Int) != 0) = false := by rw [hr0]; rfl
      have HR0 := Lib.hid hr0; clear hns hns' hp hr0
      gi_wp2
      go_roundw
      case rel => exact ⟨d + 1, by omega, by omega, by go_num, by rw [HNS.out], trivial⟩
      case measure => simp [intOf]; omega
     ·have hns' : noDiv m (d + 1) = true := by rw [hns]; simp [hr0]
      have HNS := Lib.hid hns'
      have e3 : ((r : Int) != 0) = true := by rw [bne_iff_ne]; omega
      clear hns hns' hp
      gi_wp2
      go_roundw
      case rel => exact ⟨d + 1, by omega, by omega, by go_num, by rw [HNS.out], trivial⟩
      case measure => simp [intOf]; omega
    ·have hp' : noDiv m d = false := by simpa using hp
     have hns' : noDiv m (d + 1) = false := by rw [hns, hp']; rfl
     rw [hp']; have HNS := Lib.hid hns'; clear hns hns' hp hp'
     gi_wp2
     go_roundw
     case rel => exact ⟨d + 1, by omega, by omega, by go_num, by rw [HNS.out], trivial⟩
     case measure => simp [intOf]; omega
   ·have t1 : decide (q ≤ m) = false := decide_eq_false (fun h => hlt (hle.2 h))
    obtain rfl : d = D := by omega
    by_cases hp : noDiv m d = true
    ·obtain ⟨g1, g2⟩ := HPR.out.1 hp; obtain ⟨fn, tmps, assign, body, hy, hR⟩ := hY (cntP m) wr hJ; rw [g1] at hy; rw [hp]; clear hp; have G2 := Lib.hid g2; clear g1 g2
     gi_wp2
     refine hR.mono ?_
     rintro e W' (⟨rfl, hJ', hk⟩ | ⟨rfl, hJx'⟩)
     ·have hl := hJN _ _ hJ'; have h315 := cnt_last (m + 1) (by omega) (by rw [G2.out]; omega)
      gi_wp2
      go_roundw
      case rel => exact ⟨m + 1, by omega, h315, by go_num, by rw [G2.out]; exact hJ'⟩
      case measure => simp [intOf]; omega
     ·gi_wp2
      refine bodyPost_ret (results_none rfl _ _ _) rfl ?_; exact ⟨⟨_, rfl⟩, hJx'⟩
    ·have hp' : noDiv m d = false := by simpa using hp
     have g2 := HPR.out.2 hp'; rw [hp']; have G2 := Lib.hid g2; clear g2 hp hp'
     gi_wp2
     all_goals (refine ⟨fun _ h => (by cases h), ?_⟩; gi_wp2)
     have hl := hJN _ _ hJ; have h315 := cnt_last (m + 1) (by omega) (by rw [G2.out]; omega)
     go_roundw
     case rel => exact ⟨m + 1, by omega, h315, by go_num, by rw [G2.out]; exact hJ⟩
     case measure => simp [intOf]; omega
end Go.Proofs.YtolbhliepkcihaaGreatDoor.Sha
end
section
namespace Go.Proofs.YtolbhliepkcihaaGreatDoor.Sha
open Go.RowKit Go.Shelf Mem Until
attribute [local go_sem] Oper.semAt_some
theorem u32_info : (Tryz.prog.info? 89).map (fun i => (i.zero, i.size, i.bytes)) = some (some (.int .u32 0), 1, 4) := by kernel_rfl
theorem own_slice {w : World} {base : Nat} {e : TypeId} {size n : Nat} {v : Value} {xs : List Value} (h : w.ownsRow base e size v n xs) : ∃ A c, v = .slice A n c := by
 rcases h.2 with ⟨rfl, h0⟩ | ⟨g, cap, cur, rfl, _⟩
 ·exact ⟨none, 0, by rw [h0]⟩
 ·exact ⟨_, _, rfl⟩
def rootVals (is : Nat → Nat → Bool) (k : Nat) : List Value := (List.range k).map fun i => .int .u32 ((rootN is (primeN i) : Nat) : Int)
theorem rootVals_snoc (is : Nat → Nat → Bool) (k : Nat) : rootVals is k ++ [.int .u32 ((rootN is (primeN k) : Nat) : Int)] = rootVals is (k + 1) := by simp [rootVals, List.range_succ]
theorem primes_val (w : World) : Calls Tryz.prog 94 #[] w fun e w' => e = .returned (.func (.func 107) #[] #[]) ∧ w' = w := by
 go_enter Tryz.func94, Tryz.ntmps94
 go_wp2; go_ret; exact ⟨rfl, rfl⟩
set_option maxRecDepth 100000 in
set_option maxHeartbeats 4000000 in
theorem roots_square (many : Nat) (hm : many ≤ 64) (w : World) :
  CallsIn Fence.wide 8 Tryz.prog 77 #[.int .i64 (many : Int), .func (.func 79) #[] #[]] w fun e w' => ∃ v, e = .returned v ∧ w'.ownsRow w.heap.size 89 1 v many (rootVals sqB many) ∧ Below w.heap.size w w' := by
 refine callsIn_of_wp_marks Tryz.func77 rfl trivial ?_ rfl; simp only [Tryz.ntmps77, List.size_toArray, List.length_cons, List.length_nil, Nat.reduceAdd, Nat.reduceSub, Array.replicate_succ, Array.replicate_zero, List.push_toArray, List.append_toArray, List.nil_append, List.cons_append]
 gi_wp2_with (refine ⟨trivial, ?_⟩; gi_at_call 94; refine (callsIn_wide.2 (primes_val _)).mono ?_; rintro e w' ⟨rfl, rfl⟩)
 obtain ⟨g, hg⟩ : ∃ g, w.heap.size = g := ⟨_, rfl⟩
 rw [hg]
 have X0 : Boxed (((w.alloc (.cells #[.int .i64 (many : Int)] 3)).alloc (.cells #[.func (.func 79) #[] #[]] 112)).alloc (.cells #[.slice none 0 0] 87)) g 3 (.int .i64 (many : Int)) := by
  have := ((Boxed.new w 3 (.int .i64 (many : Int))).alloc (.cells #[.func (.func 79) #[] #[]] 112)).alloc (.cells #[.slice none 0 0] 87)
  rwa [hg] at this
 have X1 : Boxed (((w.alloc (.cells #[.int .i64 (many : Int)] 3)).alloc (.cells #[.func (.func 79) #[] #[]] 112)).alloc (.cells #[.slice none 0 0] 87)) (g + 1) 112 (.func (.func 79) #[] #[]) := by
  have := (Boxed.new (w.alloc (.cells #[.int .i64 (many : Int)] 3)) 112 (.func (.func 79) #[] #[])).alloc (.cells #[.slice none 0 0] 87)
  rwa [World.size_alloc, hg] at this
 have X2 : Boxed (((w.alloc (.cells #[.int .i64 (many : Int)] 3)).alloc (.cells #[.func (.func 79) #[] #[]] 112)).alloc (.cells #[.slice none 0 0] 87)) (g + 1 + 1) 87 (.slice none 0 0) := by
  have := Boxed.new ((w.alloc (.cells #[.int .i64 (many : Int)] 3)).alloc (.cells #[.func (.func 79) #[] #[]] 112)) 87 (.slice none 0 0)
  rwa [World.size_alloc, World.size_alloc, hg] at this
 have B0 : Below g w (((w.alloc (.cells #[.int .i64 (many : Int)] 3)).alloc (.cells #[.func (.func 79) #[] #[]] 112)).alloc (.cells #[.slice none 0 0] 87)) := by
  have := (((Below.refl w.heap.size w).alloc (Nat.le_refl _) (.cells #[.int .i64 (many : Int)] 3)).alloc (by simp) (.cells #[.func (.func 79) #[] #[]] 112)).alloc (by simp; omega) (.cells #[.slice none 0 0] 87)
  rwa [hg] at this
 have hz : (((w.alloc (.cells #[.int .i64 (many : Int)] 3)).alloc (.cells #[.func (.func 79) #[] #[]] 112)).alloc (.cells #[.slice none 0 0] 87)).heap.size = g + 3 := by simp [hg]
 have hW : ∃ W0, (((w.alloc (.cells #[.int .i64 (many : Int)] 3)).alloc (.cells #[.func (.func 79) #[] #[]] 112)).alloc (.cells #[.slice none 0 0] 87)) = W0 := ⟨_, rfl⟩
 obtain ⟨W0, hW⟩ := hW; rw [hW] at X0 X1 X2 B0 hz ⊢; clear hW
 have hgw : g ≤ w.heap.size := by omega
 refine wpIn_until (n := 8) (N := many + 1) (n₀ := g) rfl (by decide) (gf := 107) (lb := #[]) rfl trivial (enters_of Tryz.func107 (by kernel_rfl) rfl)
  (primes_iter Fence.wide 7 trivial rfl (by decide) (many + 1) g (by omega)) (by omega) rfl
  (fun k W => ((k ≤ many ∧ Boxed W g 3 (.int .i64 (many : Int))) ∧ (Boxed W (g + 1) 112 (.func (.func 79) #[] #[]) ∧ ∃ v, Boxed W (g + 1 + 1) 87 v ∧ W.ownsRow g 89 1 v k (rootVals sqB k) ∧ True)) ∧ Below g w W)
  (fun id W => (id = 0 ∧ ∃ v, Boxed W (g + 1 + 1) 87 v ∧ W.ownsRow g 89 1 v many (rootVals sqB many) ∧ True) ∧ Below g w W)
  (OwnFrom.and (OwnFrom.and (OwnFrom.and (ownFrom_pure _ _) (Own.from (boxed_own _ _ _) _)) (OwnFrom.and (Own.from (boxed_own _ _ _) _) (Own.from (holdsRow_own g (g + 1 + 1) 87 89 1 (fun k => k) (fun k => rootVals sqB k) (fun _ _ => True)) _))) (ownFrom_below (by omega) (by omega)))
  (OwnFrom.and (OwnFrom.and (ownFrom_pure _ _) (Own.from (holdsRow_own g (g + 1 + 1) 87 89 1 (fun _ => many) (fun _ => rootVals sqB many) (fun _ _ => True)) _)) (ownFrom_below (by omega) (by omega)))
  (fun k W h => by have := h.1.1.1; omega)
  ⟨⟨⟨Nat.zero_le _, X0⟩, X1, _, X2, World.ownsRow_nil _ _ _ _, trivial⟩, B0⟩
  (fun k => { tmps := #[.int .i64 (many : Int), .func (.func 79) #[] #[], .pointer (some ⟨g, 0, none⟩), .pointer (some ⟨g + 1, 0, none⟩), .slice none 0 0, .pointer (some ⟨g + 1 + 1, 0, none⟩), .int .u64 ((primeN k : Nat) : Int), .func (.func 107) #[] #[], .int .u64 ((primeN k : Nat) : Int), undef, undef, undef, undef, undef, undef, undef, undef, undef, undef, undef], defers := [] }) ?assign ?body ?stop
 case assign =>
  intro l k W K hK
  gi_wp2
  exact hK
 case body =>
  rintro l k W ⟨⟨⟨hk, x0⟩, x1, v, x2, hrow, _⟩, hB⟩
  obtain ⟨A, c, rfl⟩ := own_slice hrow; have c0 := x0.cell; have c1 := x1.cell; have c2 := x2.cell
  by_cases hkm : k = many
  ·subst hkm
   have t1 : ((k : Int) == (k : Int)) = true := by simp
   gi_wp2
   exact ⟨KeepsFrom.refl _ _, ⟨rfl, _, x2, hrow, trivial⟩, hB⟩
  ·have t1 : ((k : Int) == (many : Int)) = false := by rw [beq_eq_false_iff_ne]; omega
   have hlt : k < many := by omega
   clear hkm; obtain ⟨i0, hi, hz0, hz1, hz2⟩ := info_parts u32_info
   obtain ⟨r, hr⟩ : ∃ r, rootN sqB (primeN k) = r := ⟨_, rfl⟩
   have hroot := fun W : World => root_square (primeN k) W
   rw [hr] at hroot; have hsn := rootVals_snoc sqB k; rw [hr] at hsn; have HROOT := Lib.hid hroot; have HSN := Lib.hid hsn; clear hroot hsn hr
   have hmix : Tryz.prog.follows .mixedOrders = true := by kernel_rfl
   have hgW : g ≤ W.heap.size := by have := x0.lt; omega
   obtain ⟨v', w', hrun, hown', hgrow, _, hat⟩ := run_append_own_at (P := Tryz.prog) ((W.alloc (.cells #[.int .u32 (r : Int)] 89)).drew) g 87 87 89 i0 (.int .u32 0) 1 4 Tryz.underlying87 hi hz0 hz1 hz2 rfl (by decide) (.slice A k c) k _ ((hrow.alloc _).drew) ⟨W.heap.size, 0, none⟩ 1 1 [.int .u32 (r : Int)] rfl (fun j u h => cell_one_new W _ _ j u h) (by simp [Value.oneCell']) (by simp only [maxLen]; omega) (by omega) (by simp; omega); replace hgrow : (W.alloc (.cells #[.int .u32 (r : Int)] 89)).grownBy w' (Value.slice A k c).ownBlock := ⟨hgrow.os, hgrow.tape, hgrow.output, hgrow.size, hgrow.block⟩; obtain ⟨v1, v2, r2, k2, b2⟩ := x2.appended (by decide) hrow hgW (by omega) hown' hgrow; have z0 := ((x0.alloc _).kept hgrow (x0.not_row (by decide) hrow)).other (B' := g + 1 + 1) (by omega) v'; have z1 := ((x1.alloc _).kept hgrow (x1.not_row (by decide) hrow)).other (B' := g + 1 + 1) (by omega) v'; have d1 := v1.cell; have d2 := v1.frozen; obtain ⟨A', c', rfl⟩ := own_slice hown'
   gi_wp2
   have c2a := (x2.alloc (.cells #[.int .u32 (r : Int)] 89)).cell; refine wpIn_region_any hmix ?_
   change wpAnyIn _ _ _ _ _ _ _ _ _ (World.drew _)
   refine wpAnyIn_ready (rs := [0, 1, 2]) (by kernel_rfl) (by simp) ?_; refine AllReadyIn.cons rfl (fun K hK => ?_) ?_
   ·go_simp; refine hK _ _ ?_; clear hK K; refine wpAnyIn_ready (rs := [1, 2]) (by kernel_rfl) (by simp) ?_; refine AllReadyIn.cons rfl (fun K hK => ?_) ?_
    ·go_simp; refine hK _ _ ?_; clear hK K; refine wpAnyIn_ready (rs := [2]) (by kernel_rfl) (by simp) ?_; refine AllReadyIn.cons rfl (fun K hK => ?_) ?_
     ·go_simp; refine hK _ _ ?_; clear hK K; refine wpAnyIn_ready (rs := [3]) (by kernel_rfl) (by simp) ?_; refine AllReadyIn.cons rfl (fun K hK => ?_) ?_
      ·go_simp; refine ⟨trivial, ?_⟩; refine (CallsIn.inRound l (callsIn_wide.2 (HROOT.out _))).mono ?_
       rintro e w5 ⟨rfl, rfl⟩
       go_simp; refine hK _ _ ?_; clear hK K; refine wpAnyIn_ready (rs := [4]) (by kernel_rfl) (by simp) ?_; refine AllReadyIn.cons rfl (fun K hK => ?_) ?_
       ·go_simp; refine hK _ _ ?_; clear hK K; refine wpAnyIn_ready (rs := [5]) (by kernel_rfl) (by simp) ?_; refine AllReadyIn.cons rfl (fun K hK => ?_) ?_
        ·rw [if_pos (by simp [Region.wanted])]; unfold Oper.wpIn; refine ⟨by simp [Oper.about, resolve, Target.leads, Sem.run_pure], ?_⟩; rw [Oper.semAt_plain _ _ _ (by intro c hc; cases hc)]; simp [execOp, resolve, invoke, builtin, hrun, Result.andThen, Act.eval]; refine hK _ _ ?_; clear hK K; refine wpAnyIn_ready (rs := [6]) (by kernel_rfl) (by simp) ?_; refine AllReadyIn.cons rfl (fun K hK => ?_) ?_
         ·go_simp; refine hK _ _ ?_; clear hK K; refine wpAnyIn_done (by kernel_rfl) ?_ _; exact ⟨k2.from _, b2, ⟨⟨by omega, z0⟩, z1, _, v2, by rw [← HSN.out]; exact r2, trivial⟩, hB.trans b2⟩
         exact AllReadyIn.nil
        exact AllReadyIn.nil
       exact AllReadyIn.nil
      exact AllReadyIn.nil
     exact AllReadyIn.nil
    refine AllReadyIn.cons rfl (fun K hK => ?_) ?_
    ·go_simp; refine hK _ _ ?_; clear hK K; refine wpAnyIn_ready (rs := [1]) (by kernel_rfl) (by simp) ?_; refine AllReadyIn.cons rfl (fun K hK => ?_) ?_
     ·go_simp; refine hK _ _ ?_; clear hK K; refine wpAnyIn_ready (rs := [3]) (by kernel_rfl) (by simp) ?_; refine AllReadyIn.cons rfl (fun K hK => ?_) ?_
      ·go_simp; refine ⟨trivial, ?_⟩; refine (CallsIn.inRound l (callsIn_wide.2 (HROOT.out _))).mono ?_
       rintro e w5 ⟨rfl, rfl⟩
       go_simp; refine hK _ _ ?_; clear hK K; refine wpAnyIn_ready (rs := [4]) (by kernel_rfl) (by simp) ?_; refine AllReadyIn.cons rfl (fun K hK => ?_) ?_
       ·go_simp; refine hK _ _ ?_; clear hK K; refine wpAnyIn_ready (rs := [5]) (by kernel_rfl) (by simp) ?_; refine AllReadyIn.cons rfl (fun K hK => ?_) ?_
        ·rw [if_pos (by simp [Region.wanted])]; unfold Oper.wpIn; refine ⟨by simp [Oper.about, resolve, Target.leads, Sem.run_pure], ?_⟩; rw [Oper.semAt_plain _ _ _ (by intro c hc; cases hc)]; simp [execOp, resolve, invoke, builtin, hrun, Result.andThen, Act.eval]; refine hK _ _ ?_; clear hK K; refine wpAnyIn_ready (rs := [6]) (by kernel_rfl) (by simp) ?_; refine AllReadyIn.cons rfl (fun K hK => ?_) ?_
         ·go_simp; refine hK _ _ ?_; clear hK K; refine wpAnyIn_done (by kernel_rfl) ?_ _; exact ⟨k2.from _, b2, ⟨⟨by omega, z0⟩, z1, _, v2, by rw [← HSN.out]; exact r2, trivial⟩, hB.trans b2⟩
         exact AllReadyIn.nil
        exact AllReadyIn.nil
       exact AllReadyIn.nil
      exact AllReadyIn.nil
     exact AllReadyIn.nil
    exact AllReadyIn.nil
   refine AllReadyIn.cons rfl (fun K hK => ?_) ?_
   ·go_simp; refine hK _ _ ?_; clear hK K; refine wpAnyIn_ready (rs := [0, 2]) (by kernel_rfl) (by simp) ?_; refine AllReadyIn.cons rfl (fun K hK => ?_) ?_
    ·go_simp; refine hK _ _ ?_; clear hK K; refine wpAnyIn_ready (rs := [2]) (by kernel_rfl) (by simp) ?_; refine AllReadyIn.cons rfl (fun K hK => ?_) ?_
     ·go_simp; refine hK _ _ ?_; clear hK K; refine wpAnyIn_ready (rs := [3]) (by kernel_rfl) (by simp) ?_; refine AllReadyIn.cons rfl (fun K hK => ?_) ?_
      ·go_simp; refine ⟨trivial, ?_⟩; refine (CallsIn.inRound l (callsIn_wide.2 (HROOT.out _))).mono ?_
       rintro e w5 ⟨rfl, rfl⟩
       go_simp; refine hK _ _ ?_; clear hK K; refine wpAnyIn_ready (rs := [4]) (by kernel_rfl) (by simp) ?_; refine AllReadyIn.cons rfl (fun K hK => ?_) ?_
       ·go_simp; refine hK _ _ ?_; clear hK K; refine wpAnyIn_ready (rs := [5]) (by kernel_rfl) (by simp) ?_; refine AllReadyIn.cons rfl (fun K hK => ?_) ?_
        ·rw [if_pos (by simp [Region.wanted])]; unfold Oper.wpIn; refine ⟨by simp [Oper.about, resolve, Target.leads, Sem.run_pure], ?_⟩; rw [Oper.semAt_plain _ _ _ (by intro c hc; cases hc)]; simp [execOp, resolve, invoke, builtin, hrun, Result.andThen, Act.eval]; refine hK _ _ ?_; clear hK K; refine wpAnyIn_ready (rs := [6]) (by kernel_rfl) (by simp) ?_; refine AllReadyIn.cons rfl (fun K hK => ?_) ?_
         ·go_simp; refine hK _ _ ?_; clear hK K; refine wpAnyIn_done (by kernel_rfl) ?_ _; exact ⟨k2.from _, b2, ⟨⟨by omega, z0⟩, z1, _, v2, by rw [← HSN.out]; exact r2, trivial⟩, hB.trans b2⟩
         exact AllReadyIn.nil
        exact AllReadyIn.nil
       exact AllReadyIn.nil
      exact AllReadyIn.nil
     exact AllReadyIn.nil
    refine AllReadyIn.cons rfl (fun K hK => ?_) ?_
    ·go_simp; refine hK _ _ ?_; clear hK K; refine wpAnyIn_ready (rs := [0, 3]) (by kernel_rfl) (by simp) ?_; refine AllReadyIn.cons rfl (fun K hK => ?_) ?_
     ·go_simp; refine hK _ _ ?_; clear hK K; refine wpAnyIn_ready (rs := [3]) (by kernel_rfl) (by simp) ?_; refine AllReadyIn.cons rfl (fun K hK => ?_) ?_
      ·go_simp; refine ⟨trivial, ?_⟩; refine (CallsIn.inRound l (callsIn_wide.2 (HROOT.out _))).mono ?_
       rintro e w5 ⟨rfl, rfl⟩
       go_simp; refine hK _ _ ?_; clear hK K; refine wpAnyIn_ready (rs := [4]) (by kernel_rfl) (by simp) ?_; refine AllReadyIn.cons rfl (fun K hK => ?_) ?_
       ·go_simp; refine hK _ _ ?_; clear hK K; refine wpAnyIn_ready (rs := [5]) (by kernel_rfl) (by simp) ?_; refine AllReadyIn.cons rfl (fun K hK => ?_) ?_
        ·rw [if_pos (by simp [Region.wanted])]; unfold Oper.wpIn; refine ⟨by simp [Oper.about, resolve, Target.leads, Sem.run_pure], ?_⟩; rw [Oper.semAt_plain _ _ _ (by intro c hc; cases hc)]; simp [execOp, resolve, invoke, builtin, hrun, Result.andThen, Act.eval]; refine hK _ _ ?_; clear hK K; refine wpAnyIn_ready (rs := [6]) (by kernel_rfl) (by simp) ?_; refine AllReadyIn.cons rfl (fun K hK => ?_) ?_
         ·go_simp; refine hK _ _ ?_; clear hK K; refine wpAnyIn_done (by kernel_rfl) ?_ _; exact ⟨k2.from _, b2, ⟨⟨by omega, z0⟩, z1, _, v2, by rw [← HSN.out]; exact r2, trivial⟩, hB.trans b2⟩
         exact AllReadyIn.nil
        exact AllReadyIn.nil
       exact AllReadyIn.nil
      exact AllReadyIn.nil
     refine AllReadyIn.cons rfl (fun K hK => ?_) ?_
     ·go_simp; refine ⟨trivial, ?_⟩; refine (CallsIn.inRound l (callsIn_wide.2 (HROOT.out _))).mono ?_
      rintro e w5 ⟨rfl, rfl⟩
      go_simp; refine hK _ _ ?_; clear hK K; refine wpAnyIn_ready (rs := [0, 4]) (by kernel_rfl) (by simp) ?_; refine AllReadyIn.cons rfl (fun K hK => ?_) ?_
      ·go_simp; refine hK _ _ ?_; clear hK K; refine wpAnyIn_ready (rs := [4]) (by kernel_rfl) (by simp) ?_; refine AllReadyIn.cons rfl (fun K hK => ?_) ?_
       ·go_simp; refine hK _ _ ?_; clear hK K; refine wpAnyIn_ready (rs := [5]) (by kernel_rfl) (by simp) ?_; refine AllReadyIn.cons rfl (fun K hK => ?_) ?_
        ·rw [if_pos (by simp [Region.wanted])]; unfold Oper.wpIn; refine ⟨by simp [Oper.about, resolve, Target.leads, Sem.run_pure], ?_⟩; rw [Oper.semAt_plain _ _ _ (by intro c hc; cases hc)]; simp [execOp, resolve, invoke, builtin, hrun, Result.andThen, Act.eval]; refine hK _ _ ?_; clear hK K; refine wpAnyIn_ready (rs := [6]) (by kernel_rfl) (by simp) ?_; refine AllReadyIn.cons rfl (fun K hK => ?_) ?_
         ·go_simp; refine hK _ _ ?_; clear hK K; refine wpAnyIn_done (by kernel_rfl) ?_ _; exact ⟨k2.from _, b2, ⟨⟨by omega, z0⟩, z1, _, v2, by rw [← HSN.out]; exact r2, trivial⟩, hB.trans b2⟩
         exact AllReadyIn.nil
        exact AllReadyIn.nil
       exact AllReadyIn.nil
      refine AllReadyIn.cons rfl (fun K hK => ?_) ?_
      ·go_simp; refine hK _ _ ?_; clear hK K; refine wpAnyIn_ready (rs := [0]) (by kernel_rfl) (by simp) ?_; refine AllReadyIn.cons rfl (fun K hK => ?_) ?_
       ·go_simp; refine hK _ _ ?_; clear hK K; refine wpAnyIn_ready (rs := [5]) (by kernel_rfl) (by simp) ?_; refine AllReadyIn.cons rfl (fun K hK => ?_) ?_
        ·rw [if_pos (by simp [Region.wanted])]; unfold Oper.wpIn; refine ⟨by simp [Oper.about, resolve, Target.leads, Sem.run_pure], ?_⟩; rw [Oper.semAt_plain _ _ _ (by intro c hc; cases hc)]; simp [execOp, resolve, invoke, builtin, hrun, Result.andThen, Act.eval]; refine hK _ _ ?_; clear hK K; refine wpAnyIn_ready (rs := [6]) (by kernel_rfl) (by simp) ?_; refine AllReadyIn.cons rfl (fun K hK => ?_) ?_
         ·go_simp; refine hK _ _ ?_; clear hK K; refine wpAnyIn_done (by kernel_rfl) ?_ _; exact ⟨k2.from _, b2, ⟨⟨by omega, z0⟩, z1, _, v2, by rw [← HSN.out]; exact r2, trivial⟩, hB.trans b2⟩
         exact AllReadyIn.nil
        exact AllReadyIn.nil
       exact AllReadyIn.nil
      exact AllReadyIn.nil
     exact AllReadyIn.nil
    exact AllReadyIn.nil
   refine AllReadyIn.cons rfl (fun K hK => ?_) ?_
   ·go_simp; refine hK _ _ ?_; clear hK K; refine wpAnyIn_ready (rs := [0, 1]) (by kernel_rfl) (by simp) ?_; refine AllReadyIn.cons rfl (fun K hK => ?_) ?_
    ·go_simp; refine hK _ _ ?_; clear hK K; refine wpAnyIn_ready (rs := [1]) (by kernel_rfl) (by simp) ?_; refine AllReadyIn.cons rfl (fun K hK => ?_) ?_
     ·go_simp; refine hK _ _ ?_; clear hK K; refine wpAnyIn_ready (rs := [3]) (by kernel_rfl) (by simp) ?_; refine AllReadyIn.cons rfl (fun K hK => ?_) ?_
      ·go_simp; refine ⟨trivial, ?_⟩; refine (CallsIn.inRound l (callsIn_wide.2 (HROOT.out _))).mono ?_
       rintro e w5 ⟨rfl, rfl⟩
       go_simp; refine hK _ _ ?_; clear hK K; refine wpAnyIn_ready (rs := [4]) (by kernel_rfl) (by simp) ?_; refine AllReadyIn.cons rfl (fun K hK => ?_) ?_
       ·go_simp; refine hK _ _ ?_; clear hK K; refine wpAnyIn_ready (rs := [5]) (by kernel_rfl) (by simp) ?_; refine AllReadyIn.cons rfl (fun K hK => ?_) ?_
        ·rw [if_pos (by simp [Region.wanted])]; unfold Oper.wpIn; refine ⟨by simp [Oper.about, resolve, Target.leads, Sem.run_pure], ?_⟩; rw [Oper.semAt_plain _ _ _ (by intro c hc; cases hc)]; simp [execOp, resolve, invoke, builtin, hrun, Result.andThen, Act.eval]; refine hK _ _ ?_; clear hK K; refine wpAnyIn_ready (rs := [6]) (by kernel_rfl) (by simp) ?_; refine AllReadyIn.cons rfl (fun K hK => ?_) ?_
         ·go_simp; refine hK _ _ ?_; clear hK K; refine wpAnyIn_done (by kernel_rfl) ?_ _; exact ⟨k2.from _, b2, ⟨⟨by omega, z0⟩, z1, _, v2, by rw [← HSN.out]; exact r2, trivial⟩, hB.trans b2⟩
         exact AllReadyIn.nil
        exact AllReadyIn.nil
       exact AllReadyIn.nil
      exact AllReadyIn.nil
     exact AllReadyIn.nil
    refine AllReadyIn.cons rfl (fun K hK => ?_) ?_
    ·go_simp; refine hK _ _ ?_; clear hK K; refine wpAnyIn_ready (rs := [0, 3]) (by kernel_rfl) (by simp) ?_; refine AllReadyIn.cons rfl (fun K hK => ?_) ?_
     ·go_simp; refine hK _ _ ?_; clear hK K; refine wpAnyIn_ready (rs := [3]) (by kernel_rfl) (by simp) ?_; refine AllReadyIn.cons rfl (fun K hK => ?_) ?_
      ·go_simp; refine ⟨trivial, ?_⟩; refine (CallsIn.inRound l (callsIn_wide.2 (HROOT.out _))).mono ?_
       rintro e w5 ⟨rfl, rfl⟩
       go_simp; refine hK _ _ ?_; clear hK K; refine wpAnyIn_ready (rs := [4]) (by kernel_rfl) (by simp) ?_; refine AllReadyIn.cons rfl (fun K hK => ?_) ?_
       ·go_simp; refine hK _ _ ?_; clear hK K; refine wpAnyIn_ready (rs := [5]) (by kernel_rfl) (by simp) ?_; refine AllReadyIn.cons rfl (fun K hK => ?_) ?_
        ·rw [if_pos (by simp [Region.wanted])]; unfold Oper.wpIn; refine ⟨by simp [Oper.about, resolve, Target.leads, Sem.run_pure], ?_⟩; rw [Oper.semAt_plain _ _ _ (by intro c hc; cases hc)]; simp [execOp, resolve, invoke, builtin, hrun, Result.andThen, Act.eval]; refine hK _ _ ?_; clear hK K; refine wpAnyIn_ready (rs := [6]) (by kernel_rfl) (by simp) ?_; refine AllReadyIn.cons rfl (fun K hK => ?_) ?_
         ·go_simp; refine hK _ _ ?_; clear hK K; refine wpAnyIn_done (by kernel_rfl) ?_ _; exact ⟨k2.from _, b2, ⟨⟨by omega, z0⟩, z1, _, v2, by rw [← HSN.out]; exact r2, trivial⟩, hB.trans b2⟩
         exact AllReadyIn.nil
        exact AllReadyIn.nil
       exact AllReadyIn.nil
      exact AllReadyIn.nil
     refine AllReadyIn.cons rfl (fun K hK => ?_) ?_
     ·go_simp; refine ⟨trivial, ?_⟩; refine (CallsIn.inRound l (callsIn_wide.2 (HROOT.out _))).mono ?_
      rintro e w5 ⟨rfl, rfl⟩
      go_simp; refine hK _ _ ?_; clear hK K; refine wpAnyIn_ready (rs := [0, 4]) (by kernel_rfl) (by simp) ?_; refine AllReadyIn.cons rfl (fun K hK => ?_) ?_
      ·go_simp; refine hK _ _ ?_; clear hK K; refine wpAnyIn_ready (rs := [4]) (by kernel_rfl) (by simp) ?_; refine AllReadyIn.cons rfl (fun K hK => ?_) ?_
       ·go_simp; refine hK _ _ ?_; clear hK K; refine wpAnyIn_ready (rs := [5]) (by kernel_rfl) (by simp) ?_; refine AllReadyIn.cons rfl (fun K hK => ?_) ?_
        ·rw [if_pos (by simp [Region.wanted])]; unfold Oper.wpIn; refine ⟨by simp [Oper.about, resolve, Target.leads, Sem.run_pure], ?_⟩; rw [Oper.semAt_plain _ _ _ (by intro c hc; cases hc)]; simp [execOp, resolve, invoke, builtin, hrun, Result.andThen, Act.eval]; refine hK _ _ ?_; clear hK K; refine wpAnyIn_ready (rs := [6]) (by kernel_rfl) (by simp) ?_; refine AllReadyIn.cons rfl (fun K hK => ?_) ?_
         ·go_simp; refine hK _ _ ?_; clear hK K; refine wpAnyIn_done (by kernel_rfl) ?_ _; exact ⟨k2.from _, b2, ⟨⟨by omega, z0⟩, z1, _, v2, by rw [← HSN.out]; exact r2, trivial⟩, hB.trans b2⟩
         exact AllReadyIn.nil
        exact AllReadyIn.nil
       exact AllReadyIn.nil
      refine AllReadyIn.cons rfl (fun K hK => ?_) ?_
      ·go_simp; refine hK _ _ ?_; clear hK K; refine wpAnyIn_ready (rs := [0]) (by kernel_rfl) (by simp) ?_; refine AllReadyIn.cons rfl (fun K hK => ?_) ?_
       ·go_simp; refine hK _ _ ?_; clear hK K; refine wpAnyIn_ready (rs := [5]) (by kernel_rfl) (by simp) ?_; refine AllReadyIn.cons rfl (fun K hK => ?_) ?_
        ·rw [if_pos (by simp [Region.wanted])]; unfold Oper.wpIn; refine ⟨by simp [Oper.about, resolve, Target.leads, Sem.run_pure], ?_⟩; rw [Oper.semAt_plain _ _ _ (by intro c hc; cases hc)]; simp [execOp, resolve, invoke, builtin, hrun, Result.andThen, Act.eval]; refine hK _ _ ?_; clear hK K; refine wpAnyIn_ready (rs := [6]) (by kernel_rfl) (by simp) ?_; refine AllReadyIn.cons rfl (fun K hK => ?_) ?_
         ·go_simp; refine hK _ _ ?_; clear hK K; refine wpAnyIn_done (by kernel_rfl) ?_ _; exact ⟨k2.from _, b2, ⟨⟨by omega, z0⟩, z1, _, v2, by rw [← HSN.out]; exact r2, trivial⟩, hB.trans b2⟩
         exact AllReadyIn.nil
        exact AllReadyIn.nil
       exact AllReadyIn.nil
      exact AllReadyIn.nil
     exact AllReadyIn.nil
    exact AllReadyIn.nil
   exact AllReadyIn.nil
 case stop =>
  rintro D id W hD ⟨⟨rfl, v, x2, hrow, _⟩, hB⟩ hK
  have c2 := x2.cell
  gi_wp2
  refine ⟨by simp, .inl ⟨_, _, rfl, run_takeDeferred hK, ?_⟩⟩; exact ⟨_, results_tmp rfl _ _ _, _, rfl, by rw [hg]; exact ownsRow_putObj hrow _ hK rfl, by rw [hg]; exact hB.trans (belowK_b (w := W0) (n₀ := g) (by omega) W D _ _ (by omega) hK rfl rfl)⟩
end Go.Proofs.YtolbhliepkcihaaGreatDoor.Sha
end
section
namespace Go.Proofs.YtolbhliepkcihaaGreatDoor.Sha
open Go.RowKit Go.Shelf Mem Until
attribute [local go_sem] Oper.semAt_some
set_option maxRecDepth 100000 in
set_option maxHeartbeats 4000000 in
theorem roots_cube (many : Nat) (hm : many ≤ 64) (w : World) :
  CallsIn Fence.wide 8 Tryz.prog 77 #[.int .i64 (many : Int), .func (.func 78) #[] #[]] w fun e w' => ∃ v, e = .returned v ∧ w'.ownsRow w.heap.size 89 1 v many (rootVals cubeB many) ∧ Below w.heap.size w w' := by
 refine callsIn_of_wp_marks Tryz.func77 rfl trivial ?_ rfl; simp only [Tryz.ntmps77, List.size_toArray, List.length_cons, List.length_nil, Nat.reduceAdd, Nat.reduceSub, Array.replicate_succ, Array.replicate_zero, List.push_toArray, List.append_toArray, List.nil_append, List.cons_append]
 gi_wp2_with (refine ⟨trivial, ?_⟩; gi_at_call 94; refine (callsIn_wide.2 (primes_val _)).mono ?_; rintro e w' ⟨rfl, rfl⟩)
 obtain ⟨g, hg⟩ : ∃ g, w.heap.size = g := ⟨_, rfl⟩
 rw [hg]
 have X0 : Boxed (((w.alloc (.cells #[.int .i64 (many : Int)] 3)).alloc (.cells #[.func (.func 78) #[] #[]] 112)).alloc (.cells #[.slice none 0 0] 87)) g 3 (.int .i64 (many : Int)) := by
  have := ((Boxed.new w 3 (.int .i64 (many : Int))).alloc (.cells #[.func (.func 78) #[] #[]] 112)).alloc (.cells #[.slice none 0 0] 87)
  rwa [hg] at this
 have X1 : Boxed (((w.alloc (.cells #[.int .i64 (many : Int)] 3)).alloc (.cells #[.func (.func 78) #[] #[]] 112)).alloc (.cells #[.slice none 0 0] 87)) (g + 1) 112 (.func (.func 78) #[] #[]) := by
  have := (Boxed.new (w.alloc (.cells #[.int .i64 (many : Int)] 3)) 112 (.func (.func 78) #[] #[])).alloc (.cells #[.slice none 0 0] 87)
  rwa [World.size_alloc, hg] at this
 have X2 : Boxed (((w.alloc (.cells #[.int .i64 (many : Int)] 3)).alloc (.cells #[.func (.func 78) #[] #[]] 112)).alloc (.cells #[.slice none 0 0] 87)) (g + 1 + 1) 87 (.slice none 0 0) := by
  have := Boxed.new ((w.alloc (.cells #[.int .i64 (many : Int)] 3)).alloc (.cells #[.func (.func 78) #[] #[]] 112)) 87 (.slice none 0 0)
  rwa [World.size_alloc, World.size_alloc, hg] at this
 have B0 : Below g w (((w.alloc (.cells #[.int .i64 (many : Int)] 3)).alloc (.cells #[.func (.func 78) #[] #[]] 112)).alloc (.cells #[.slice none 0 0] 87)) := by
  have := (((Below.refl w.heap.size w).alloc (Nat.le_refl _) (.cells #[.int .i64 (many : Int)] 3)).alloc (by simp) (.cells #[.func (.func 78) #[] #[]] 112)).alloc (by simp; omega) (.cells #[.slice none 0 0] 87)
  rwa [hg] at this
 have hz : (((w.alloc (.cells #[.int .i64 (many : Int)] 3)).alloc (.cells #[.func (.func 78) #[] #[]] 112)).alloc (.cells #[.slice none 0 0] 87)).heap.size = g + 3 := by simp [hg]
 have hW : ∃ W0, (((w.alloc (.cells #[.int .i64 (many : Int)] 3)).alloc (.cells #[.func (.func 78) #[] #[]] 112)).alloc (.cells #[.slice none 0 0] 87)) = W0 := ⟨_, rfl⟩
 obtain ⟨W0, hW⟩ := hW; rw [hW] at X0 X1 X2 B0 hz ⊢; clear hW
 have hgw : g ≤ w.heap.size := by omega
 refine wpIn_until (n := 8) (N := many + 1) (n₀ := g) rfl (by decide) (gf := 107) (lb := #[]) rfl trivial (enters_of Tryz.func107 (by kernel_rfl) rfl)
  (primes_iter Fence.wide 7 trivial rfl (by decide) (many + 1) g (by omega)) (by omega) rfl
  (fun k W => ((k ≤ many ∧ Boxed W g 3 (.int .i64 (many : Int))) ∧ (Boxed W (g + 1) 112 (.func (.func 78) #[] #[]) ∧ ∃ v, Boxed W (g + 1 + 1) 87 v ∧ W.ownsRow g 89 1 v k (rootVals cubeB k) ∧ True)) ∧ Below g w W)
  (fun id W => (id = 0 ∧ ∃ v, Boxed W (g + 1 + 1) 87 v ∧ W.ownsRow g 89 1 v many (rootVals cubeB many) ∧ True) ∧ Below g w W)
  (OwnFrom.and (OwnFrom.and (OwnFrom.and (ownFrom_pure _ _) (Own.from (boxed_own _ _ _) _)) (OwnFrom.and (Own.from (boxed_own _ _ _) _) (Own.from (holdsRow_own g (g + 1 + 1) 87 89 1 (fun k => k) (fun k => rootVals cubeB k) (fun _ _ => True)) _))) (ownFrom_below (by omega) (by omega)))
  (OwnFrom.and (OwnFrom.and (ownFrom_pure _ _) (Own.from (holdsRow_own g (g + 1 + 1) 87 89 1 (fun _ => many) (fun _ => rootVals cubeB many) (fun _ _ => True)) _)) (ownFrom_below (by omega) (by omega)))
  (fun k W h => by have := h.1.1.1; omega)
  ⟨⟨⟨Nat.zero_le _, X0⟩, X1, _, X2, World.ownsRow_nil _ _ _ _, trivial⟩, B0⟩
  (fun k => { tmps := #[.int .i64 (many : Int), .func (.func 78) #[] #[], .pointer (some ⟨g, 0, none⟩), .pointer (some ⟨g + 1, 0, none⟩), .slice none 0 0, .pointer (some ⟨g + 1 + 1, 0, none⟩), .int .u64 ((primeN k : Nat) : Int), .func (.func 107) #[] #[], .int .u64 ((primeN k : Nat) : Int), undef, undef, undef, undef, undef, undef, undef, undef, undef, undef, undef], defers := [] }) ?assign ?body ?stop
 case assign =>
  intro l k W K hK
  gi_wp2
  exact hK
 case body =>
  rintro l k W ⟨⟨⟨hk, x0⟩, x1, v, x2, hrow, _⟩, hB⟩
  obtain ⟨A, c, rfl⟩ := own_slice hrow; have c0 := x0.cell; have c1 := x1.cell; have c2 := x2.cell
  by_cases hkm : k = many
  ·subst hkm
   have t1 : ((k : Int) == (k : Int)) = true := by simp
   gi_wp2
   exact ⟨KeepsFrom.refl _ _, ⟨rfl, _, x2, hrow, trivial⟩, hB⟩
  ·have t1 : ((k : Int) == (many : Int)) = false := by rw [beq_eq_false_iff_ne]; omega
   have hlt : k < many := by omega
   clear hkm; obtain ⟨i0, hi, hz0, hz1, hz2⟩ := info_parts u32_info
   obtain ⟨r, hr⟩ : ∃ r, rootN cubeB (primeN k) = r := ⟨_, rfl⟩
   have hroot := fun W : World => root_cube (primeN k) W
   rw [hr] at hroot; have hsn := rootVals_snoc cubeB k; rw [hr] at hsn; have HROOT := Lib.hid hroot; have HSN := Lib.hid hsn; clear hroot hsn hr
   have hmix : Tryz.prog.follows .mixedOrders = true := by kernel_rfl
   have hgW : g ≤ W.heap.size := by have := x0.lt; omega
   obtain ⟨v', w', hrun, hown', hgrow, _, hat⟩ := run_append_own_at (P := Tryz.prog) ((W.alloc (.cells #[.int .u32 (r : Int)] 89)).drew) g 87 87 89 i0 (.int .u32 0) 1 4 Tryz.underlying87 hi hz0 hz1 hz2 rfl (by decide) (.slice A k c) k _ ((hrow.alloc _).drew) ⟨W.heap.size, 0, none⟩ 1 1 [.int .u32 (r : Int)] rfl (fun j u h => cell_one_new W _ _ j u h) (by simp [Value.oneCell']) (by simp only [maxLen]; omega) (by omega) (by simp; omega); replace hgrow : (W.alloc (.cells #[.int .u32 (r : Int)] 89)).grownBy w' (Value.slice A k c).ownBlock := ⟨hgrow.os, hgrow.tape, hgrow.output, hgrow.size, hgrow.block⟩; obtain ⟨v1, v2, r2, k2, b2⟩ := x2.appended (by decide) hrow hgW (by omega) hown' hgrow; have z0 := ((x0.alloc _).kept hgrow (x0.not_row (by decide) hrow)).other (B' := g + 1 + 1) (by omega) v'; have z1 := ((x1.alloc _).kept hgrow (x1.not_row (by decide) hrow)).other (B' := g + 1 + 1) (by omega) v'; have d1 := v1.cell; have d2 := v1.frozen; obtain ⟨A', c', rfl⟩ := own_slice hown'
   gi_wp2
   have c2a := (x2.alloc (.cells #[.int .u32 (r : Int)] 89)).cell; refine wpIn_region_any hmix ?_
   change wpAnyIn _ _ _ _ _ _ _ _ _ (World.drew _)
   refine wpAnyIn_ready (rs := [0, 1, 2]) (by kernel_rfl) (by simp) ?_; refine AllReadyIn.cons rfl (fun K hK => ?_) ?_
   ·go_simp; refine hK _ _ ?_; clear hK K; refine wpAnyIn_ready (rs := [1, 2]) (by kernel_rfl) (by simp) ?_; refine AllReadyIn.cons rfl (fun K hK => ?_) ?_
    ·go_simp; refine hK _ _ ?_; clear hK K; refine wpAnyIn_ready (rs := [2]) (by kernel_rfl) (by simp) ?_; refine AllReadyIn.cons rfl (fun K hK => ?_) ?_
     ·go_simp; refine hK _ _ ?_; clear hK K; refine wpAnyIn_ready (rs := [3]) (by kernel_rfl) (by simp) ?_; refine AllReadyIn.cons rfl (fun K hK => ?_) ?_
      ·go_simp; refine ⟨trivial, ?_⟩; refine (CallsIn.inRound l (callsIn_wide.2 (HROOT.out _))).mono ?_
       rintro e w5 ⟨rfl, rfl⟩
       go_simp; refine hK _ _ ?_; clear hK K; refine wpAnyIn_ready (rs := [4]) (by kernel_rfl) (by simp) ?_; refine AllReadyIn.cons rfl (fun K hK => ?_) ?_
       ·go_simp; refine hK _ _ ?_; clear hK K; refine wpAnyIn_ready (rs := [5]) (by kernel_rfl) (by simp) ?_; refine AllReadyIn.cons rfl (fun K hK => ?_) ?_
        ·rw [if_pos (by simp [Region.wanted])]; unfold Oper.wpIn; refine ⟨by simp [Oper.about, resolve, Target.leads, Sem.run_pure], ?_⟩; rw [Oper.semAt_plain _ _ _ (by intro c hc; cases hc)]; simp [execOp, resolve, invoke, builtin, hrun, Result.andThen, Act.eval]; refine hK _ _ ?_; clear hK K; refine wpAnyIn_ready (rs := [6]) (by kernel_rfl) (by simp) ?_; refine AllReadyIn.cons rfl (fun K hK => ?_) ?_
         ·go_simp; refine hK _ _ ?_; clear hK K; refine wpAnyIn_done (by kernel_rfl) ?_ _; exact ⟨k2.from _, b2, ⟨⟨by omega, z0⟩, z1, _, v2, by rw [← HSN.out]; exact r2, trivial⟩, hB.trans b2⟩
         exact AllReadyIn.nil
        exact AllReadyIn.nil
       exact AllReadyIn.nil
      exact AllReadyIn.nil
     exact AllReadyIn.nil
    refine AllReadyIn.cons rfl (fun K hK => ?_) ?_
    ·go_simp; refine hK _ _ ?_; clear hK K; refine wpAnyIn_ready (rs := [1]) (by kernel_rfl) (by simp) ?_; refine AllReadyIn.cons rfl (fun K hK => ?_) ?_
     ·go_simp; refine hK _ _ ?_; clear hK K; refine wpAnyIn_ready (rs := [3]) (by kernel_rfl) (by simp) ?_; refine AllReadyIn.cons rfl (fun K hK => ?_) ?_
      ·go_simp; refine ⟨trivial, ?_⟩; refine (CallsIn.inRound l (callsIn_wide.2 (HROOT.out _))).mono ?_
       rintro e w5 ⟨rfl, rfl⟩
       go_simp; refine hK _ _ ?_; clear hK K; refine wpAnyIn_ready (rs := [4]) (by kernel_rfl) (by simp) ?_; refine AllReadyIn.cons rfl (fun K hK => ?_) ?_
       ·go_simp; refine hK _ _ ?_; clear hK K; refine wpAnyIn_ready (rs := [5]) (by kernel_rfl) (by simp) ?_; refine AllReadyIn.cons rfl (fun K hK => ?_) ?_
        ·rw [if_pos (by simp [Region.wanted])]; unfold Oper.wpIn; refine ⟨by simp [Oper.about, resolve, Target.leads, Sem.run_pure], ?_⟩; rw [Oper.semAt_plain _ _ _ (by intro c hc; cases hc)]; simp [execOp, resolve, invoke, builtin, hrun, Result.andThen, Act.eval]; refine hK _ _ ?_; clear hK K; refine wpAnyIn_ready (rs := [6]) (by kernel_rfl) (by simp) ?_; refine AllReadyIn.cons rfl (fun K hK => ?_) ?_
         ·go_simp; refine hK _ _ ?_; clear hK K; refine wpAnyIn_done (by kernel_rfl) ?_ _; exact ⟨k2.from _, b2, ⟨⟨by omega, z0⟩, z1, _, v2, by rw [← HSN.out]; exact r2, trivial⟩, hB.trans b2⟩
         exact AllReadyIn.nil
        exact AllReadyIn.nil
       exact AllReadyIn.nil
      exact AllReadyIn.nil
     exact AllReadyIn.nil
    exact AllReadyIn.nil
   refine AllReadyIn.cons rfl (fun K hK => ?_) ?_
   ·go_simp; refine hK _ _ ?_; clear hK K; refine wpAnyIn_ready (rs := [0, 2]) (by kernel_rfl) (by simp) ?_; refine AllReadyIn.cons rfl (fun K hK => ?_) ?_
    ·go_simp; refine hK _ _ ?_; clear hK K; refine wpAnyIn_ready (rs := [2]) (by kernel_rfl) (by simp) ?_; refine AllReadyIn.cons rfl (fun K hK => ?_) ?_
     ·go_simp; refine hK _ _ ?_; clear hK K; refine wpAnyIn_ready (rs := [3]) (by kernel_rfl) (by simp) ?_; refine AllReadyIn.cons rfl (fun K hK => ?_) ?_
      ·go_simp; refine ⟨trivial, ?_⟩; refine (CallsIn.inRound l (callsIn_wide.2 (HROOT.out _))).mono ?_
       rintro e w5 ⟨rfl, rfl⟩
       go_simp; refine hK _ _ ?_; clear hK K; refine wpAnyIn_ready (rs := [4]) (by kernel_rfl) (by simp) ?_; refine AllReadyIn.cons rfl (fun K hK => ?_) ?_
       ·go_simp; refine hK _ _ ?_; clear hK K; refine wpAnyIn_ready (rs := [5]) (by kernel_rfl) (by simp) ?_; refine AllReadyIn.cons rfl (fun K hK => ?_) ?_
        ·rw [if_pos (by simp [Region.wanted])]; unfold Oper.wpIn; refine ⟨by simp [Oper.about, resolve, Target.leads, Sem.run_pure], ?_⟩; rw [Oper.semAt_plain _ _ _ (by intro c hc; cases hc)]; simp [execOp, resolve, invoke, builtin, hrun, Result.andThen, Act.eval]; refine hK _ _ ?_; clear hK K; refine wpAnyIn_ready (rs := [6]) (by kernel_rfl) (by simp) ?_; refine AllReadyIn.cons rfl (fun K hK => ?_) ?_
         ·go_simp; refine hK _ _ ?_; clear hK K; refine wpAnyIn_done (by kernel_rfl) ?_ _; exact ⟨k2.from _, b2, ⟨⟨by omega, z0⟩, z1, _, v2, by rw [← HSN.out]; exact r2, trivial⟩, hB.trans b2⟩
         exact AllReadyIn.nil
        exact AllReadyIn.nil
       exact AllReadyIn.nil
      exact AllReadyIn.nil
     exact AllReadyIn.nil
    refine AllReadyIn.cons rfl (fun K hK => ?_) ?_
    ·go_simp; refine hK _ _ ?_; clear hK K; refine wpAnyIn_ready (rs := [0, 3]) (by kernel_rfl) (by simp) ?_; refine AllReadyIn.cons rfl (fun K hK => ?_) ?_
     ·go_simp; refine hK _ _ ?_; clear hK K; refine wpAnyIn_ready (rs := [3]) (by kernel_rfl) (by simp) ?_; refine AllReadyIn.cons rfl (fun K hK => ?_) ?_
      ·go_simp; refine ⟨trivial, ?_⟩; refine (CallsIn.inRound l (callsIn_wide.2 (HROOT.out _))).mono ?_
       rintro e w5 ⟨rfl, rfl⟩
       go_simp; refine hK _ _ ?_; clear hK K; refine wpAnyIn_ready (rs := [4]) (by kernel_rfl) (by simp) ?_; refine AllReadyIn.cons rfl (fun K hK => ?_) ?_
       ·go_simp; refine hK _ _ ?_; clear hK K; refine wpAnyIn_ready (rs := [5]) (by kernel_rfl) (by simp) ?_; refine AllReadyIn.cons rfl (fun K hK => ?_) ?_
        ·rw [if_pos (by simp [Region.wanted])]; unfold Oper.wpIn; refine ⟨by simp [Oper.about, resolve, Target.leads, Sem.run_pure], ?_⟩; rw [Oper.semAt_plain _ _ _ (by intro c hc; cases hc)]; simp [execOp, resolve, invoke, builtin, hrun, Result.andThen, Act.eval]; refine hK _ _ ?_; clear hK K; refine wpAnyIn_ready (rs := [6]) (by kernel_rfl) (by simp) ?_; refine AllReadyIn.cons rfl (fun K hK => ?_) ?_
         ·go_simp; refine hK _ _ ?_; clear hK K; refine wpAnyIn_done (by kernel_rfl) ?_ _; exact ⟨k2.from _, b2, ⟨⟨by omega, z0⟩, z1, _, v2, by rw [← HSN.out]; exact r2, trivial⟩, hB.trans b2⟩
         exact AllReadyIn.nil
        exact AllReadyIn.nil
       exact AllReadyIn.nil
      exact AllReadyIn.nil
     refine AllReadyIn.cons rfl (fun K hK => ?_) ?_
     ·go_simp; refine ⟨trivial, ?_⟩; refine (CallsIn.inRound l (callsIn_wide.2 (HROOT.out _))).mono ?_
      rintro e w5 ⟨rfl, rfl⟩
      go_simp; refine hK _ _ ?_; clear hK K; refine wpAnyIn_ready (rs := [0, 4]) (by kernel_rfl) (by simp) ?_; refine AllReadyIn.cons rfl (fun K hK => ?_) ?_
      ·go_simp; refine hK _ _ ?_; clear hK K; refine wpAnyIn_ready (rs := [4]) (by kernel_rfl) (by simp) ?_; refine AllReadyIn.cons rfl (fun K hK => ?_) ?_
       ·go_simp; refine hK _ _ ?_; clear hK K; refine wpAnyIn_ready (rs := [5]) (by kernel_rfl) (by simp) ?_; refine AllReadyIn.cons rfl (fun K hK => ?_) ?_
        ·rw [if_pos (by simp [Region.wanted])]; unfold Oper.wpIn; refine ⟨by simp [Oper.about, resolve, Target.leads, Sem.run_pure], ?_⟩; rw [Oper.semAt_plain _ _ _ (by intro c hc; cases hc)]; simp [execOp, resolve, invoke, builtin, hrun, Result.andThen, Act.eval]; refine hK _ _ ?_; clear hK K; refine wpAnyIn_ready (rs := [6]) (by kernel_rfl) (by simp) ?_; refine AllReadyIn.cons rfl (fun K hK => ?_) ?_
         ·go_simp; refine hK _ _ ?_; clear hK K; refine wpAnyIn_done (by kernel_rfl) ?_ _; exact ⟨k2.from _, b2, ⟨⟨by omega, z0⟩, z1, _, v2, by rw [← HSN.out]; exact r2, trivial⟩, hB.trans b2⟩
         exact AllReadyIn.nil
        exact AllReadyIn.nil
       exact AllReadyIn.nil
      refine AllReadyIn.cons rfl (fun K hK => ?_) ?_
      ·go_simp; refine hK _ _ ?_; clear hK K; refine wpAnyIn_ready (rs := [0]) (by kernel_rfl) (by simp) ?_; refine AllReadyIn.cons rfl (fun K hK => ?_) ?_
       ·go_simp; refine hK _ _ ?_; clear hK K; refine wpAnyIn_ready (rs := [5]) (by kernel_rfl) (by simp) ?_; refine AllReadyIn.cons rfl (fun K hK => ?_) ?_
        ·rw [if_pos (by simp [Region.wanted])]; unfold Oper.wpIn; refine ⟨by simp [Oper.about, resolve, Target.leads, Sem.run_pure], ?_⟩; rw [Oper.semAt_plain _ _ _ (by intro c hc; cases hc)]; simp [execOp, resolve, invoke, builtin, hrun, Result.andThen, Act.eval]; refine hK _ _ ?_; clear hK K; refine wpAnyIn_ready (rs := [6]) (by kernel_rfl) (by simp) ?_; refine AllReadyIn.cons rfl (fun K hK => ?_) ?_
         ·go_simp; refine hK _ _ ?_; clear hK K; refine wpAnyIn_done (by kernel_rfl) ?_ _; exact ⟨k2.from _, b2, ⟨⟨by omega, z0⟩, z1, _, v2, by rw [← HSN.out]; exact r2, trivial⟩, hB.trans b2⟩
         exact AllReadyIn.nil
        exact AllReadyIn.nil
       exact AllReadyIn.nil
      exact AllReadyIn.nil
     exact AllReadyIn.nil
    exact AllReadyIn.nil
   refine AllReadyIn.cons rfl (fun K hK => ?_) ?_
   ·go_simp; refine hK _ _ ?_; clear hK K; refine wpAnyIn_ready (rs := [0, 1]) (by kernel_rfl) (by simp) ?_; refine AllReadyIn.cons rfl (fun K hK => ?_) ?_
    ·go_simp; refine hK _ _ ?_; clear hK K; refine wpAnyIn_ready (rs := [1]) (by kernel_rfl) (by simp) ?_; refine AllReadyIn.cons rfl (fun K hK => ?_) ?_
     ·go_simp; refine hK _ _ ?_; clear hK K; refine wpAnyIn_ready (rs := [3]) (by kernel_rfl) (by simp) ?_; refine AllReadyIn.cons rfl (fun K hK => ?_) ?_
      ·go_simp; refine ⟨trivial, ?_⟩; refine (CallsIn.inRound l (callsIn_wide.2 (HROOT.out _))).mono ?_
       rintro e w5 ⟨rfl, rfl⟩
       go_simp; refine hK _ _ ?_; clear hK K; refine wpAnyIn_ready (rs := [4]) (by kernel_rfl) (by simp) ?_; refine AllReadyIn.cons rfl (fun K hK => ?_) ?_
       ·go_simp; refine hK _ _ ?_; clear hK K; refine wpAnyIn_ready (rs := [5]) (by kernel_rfl) (by simp) ?_; refine AllReadyIn.cons rfl (fun K hK => ?_) ?_
        ·rw [if_pos (by simp [Region.wanted])]; unfold Oper.wpIn; refine ⟨by simp [Oper.about, resolve, Target.leads, Sem.run_pure], ?_⟩; rw [Oper.semAt_plain _ _ _ (by intro c hc; cases hc)]; simp [execOp, resolve, invoke, builtin, hrun, Result.andThen, Act.eval]; refine hK _ _ ?_; clear hK K; refine wpAnyIn_ready (rs := [6]) (by kernel_rfl) (by simp) ?_; refine AllReadyIn.cons rfl (fun K hK => ?_) ?_
         ·go_simp; refine hK _ _ ?_; clear hK K; refine wpAnyIn_done (by kernel_rfl) ?_ _; exact ⟨k2.from _, b2, ⟨⟨by omega, z0⟩, z1, _, v2, by rw [← HSN.out]; exact r2, trivial⟩, hB.trans b2⟩
         exact AllReadyIn.nil
        exact AllReadyIn.nil
       exact AllReadyIn.nil
      exact AllReadyIn.nil
     exact AllReadyIn.nil
    refine AllReadyIn.cons rfl (fun K hK => ?_) ?_
    ·go_simp; refine hK _ _ ?_; clear hK K; refine wpAnyIn_ready (rs := [0, 3]) (by kernel_rfl) (by simp) ?_; refine AllReadyIn.cons rfl (fun K hK => ?_) ?_
     ·go_simp; refine hK _ _ ?_; clear hK K; refine wpAnyIn_ready (rs := [3]) (by kernel_rfl) (by simp) ?_; refine AllReadyIn.cons rfl (fun K hK => ?_) ?_
      ·go_simp; refine ⟨trivial, ?_⟩; refine (CallsIn.inRound l (callsIn_wide.2 (HROOT.out _))).mono ?_
       rintro e w5 ⟨rfl, rfl⟩
       go_simp; refine hK _ _ ?_; clear hK K; refine wpAnyIn_ready (rs := [4]) (by kernel_rfl) (by simp) ?_; refine AllReadyIn.cons rfl (fun K hK => ?_) ?_
       ·go_simp; refine hK _ _ ?_; clear hK K; refine wpAnyIn_ready (rs := [5]) (by kernel_rfl) (by simp) ?_; refine AllReadyIn.cons rfl (fun K hK => ?_) ?_
        ·rw [if_pos (by simp [Region.wanted])]; unfold Oper.wpIn; refine ⟨by simp [Oper.about, resolve, Target.leads, Sem.run_pure], ?_⟩; rw [Oper.semAt_plain _ _ _ (by intro c hc; cases hc)]; simp [execOp, resolve, invoke, builtin, hrun, Result.andThen, Act.eval]; refine hK _ _ ?_; clear hK K; refine wpAnyIn_ready (rs := [6]) (by kernel_rfl) (by simp) ?_; refine AllReadyIn.cons rfl (fun K hK => ?_) ?_
         ·go_simp; refine hK _ _ ?_; clear hK K; refine wpAnyIn_done (by kernel_rfl) ?_ _; exact ⟨k2.from _, b2, ⟨⟨by omega, z0⟩, z1, _, v2, by rw [← HSN.out]; exact r2, trivial⟩, hB.trans b2⟩
         exact AllReadyIn.nil
        exact AllReadyIn.nil
       exact AllReadyIn.nil
      exact AllReadyIn.nil
     refine AllReadyIn.cons rfl (fun K hK => ?_) ?_
     ·go_simp; refine ⟨trivial, ?_⟩; refine (CallsIn.inRound l (callsIn_wide.2 (HROOT.out _))).mono ?_
      rintro e w5 ⟨rfl, rfl⟩
      go_simp; refine hK _ _ ?_; clear hK K; refine wpAnyIn_ready (rs := [0, 4]) (by kernel_rfl) (by simp) ?_; refine AllReadyIn.cons rfl (fun K hK => ?_) ?_
      ·go_simp; refine hK _ _ ?_; clear hK K; refine wpAnyIn_ready (rs := [4]) (by kernel_rfl) (by simp) ?_; refine AllReadyIn.cons rfl (fun K hK => ?_) ?_
       ·go_simp; refine hK _ _ ?_; clear hK K; refine wpAnyIn_ready (rs := [5]) (by kernel_rfl) (by simp) ?_; refine AllReadyIn.cons rfl (fun K hK => ?_) ?_
        ·rw [if_pos (by simp [Region.wanted])]; unfold Oper.wpIn; refine ⟨by simp [Oper.about, resolve, Target.leads, Sem.run_pure], ?_⟩; rw [Oper.semAt_plain _ _ _ (by intro c hc; cases hc)]; simp [execOp, resolve, invoke, builtin, hrun, Result.andThen, Act.eval]; refine hK _ _ ?_; clear hK K; refine wpAnyIn_ready (rs := [6]) (by kernel_rfl) (by simp) ?_; refine AllReadyIn.cons rfl (fun K hK => ?_) ?_
         ·go_simp; refine hK _ _ ?_; clear hK K; refine wpAnyIn_done (by kernel_rfl) ?_ _; exact ⟨k2.from _, b2, ⟨⟨by omega, z0⟩, z1, _, v2, by rw [← HSN.out]; exact r2, trivial⟩, hB.trans b2⟩
         exact AllReadyIn.nil
        exact AllReadyIn.nil
       exact AllReadyIn.nil
      refine AllReadyIn.cons rfl (fun K hK => ?_) ?_
      ·go_simp; refine hK _ _ ?_; clear hK K; refine wpAnyIn_ready (rs := [0]) (by kernel_rfl) (by simp) ?_; refine AllReadyIn.cons rfl (fun K hK => ?_) ?_
       ·go_simp; refine hK _ _ ?_; clear hK K; refine wpAnyIn_ready (rs := [5]) (by kernel_rfl) (by simp) ?_; refine AllReadyIn.cons rfl (fun K hK => ?_) ?_
        ·rw [if_pos (by simp [Region.wanted])]; unfold Oper.wpIn; refine ⟨by simp [Oper.about, resolve, Target.leads, Sem.run_pure], ?_⟩; rw [Oper.semAt_plain _ _ _ (by intro c hc; cases hc)]; simp [execOp, resolve, invoke, builtin, hrun, Result.andThen, Act.eval]; refine hK _ _ ?_; clear hK K; refine wpAnyIn_ready (rs := [6]) (by kernel_rfl) (by simp) ?_; refine AllReadyIn.cons rfl (fun K hK => ?_) ?_
         ·go_simp; refine hK _ _ ?_; clear hK K; refine wpAnyIn_done (by kernel_rfl) ?_ _; exact ⟨k2.from _, b2, ⟨⟨by omega, z0⟩, z1, _, v2, by rw [← HSN.out]; exact r2, trivial⟩, hB.trans b2⟩
         exact AllReadyIn.nil
        exact AllReadyIn.nil
       exact AllReadyIn.nil
      exact AllReadyIn.nil
     exact AllReadyIn.nil
    exact AllReadyIn.nil
   exact AllReadyIn.nil
 case stop =>
  rintro D id W hD ⟨⟨rfl, v, x2, hrow, _⟩, hB⟩ hK
  have c2 := x2.cell
  gi_wp2
  refine ⟨by simp, .inl ⟨_, _, rfl, run_takeDeferred hK, ?_⟩⟩; exact ⟨_, results_tmp rfl _ _ _, _, rfl, by rw [hg]; exact ownsRow_putObj hrow _ hK rfl, by rw [hg]; exact hB.trans (belowK_b (w := W0) (n₀ := g) (by omega) W D _ _ (by omega) hK rfl rfl)⟩
def u32L (l : List Nat) : List Value := l.map fun (n : Nat) => .int .u32 (n : Int)
theorem startVals : rootVals sqB 8 = u32L startL := by
 rw [← starts_eq]; unfold rootVals u32L; rw [List.map_map, show primeL.take 8 = (List.range 8).map primeN from rfl, List.map_map]; rfl
theorem keyVals : rootVals cubeB 64 = u32L keyL := by
 rw [← keys_eq]; unfold rootVals u32L; rw [List.map_map, show primeL.take 64 = (List.range 64).map primeN from rfl, List.map_map]; rfl
theorem start_any (w : World) : Calls Tryz.prog 57 #[] w fun e w' => ∃ v, e = .returned v ∧ w'.ownsRow w.heap.size 89 1 v 8 (u32L startL) ∧ Below w.heap.size w w' := by
 have h := callsIn_wide.1 (roots_square 8 (by decide) w); rw [startVals] at h; have H := Lib.hid h; clear h
 go_enter Tryz.func57, Tryz.ntmps57
 go_wp2_with (go_at_call 77; refine (H.out).mono ?_; rintro e w' ⟨v, rfl, ho, hb⟩)
 go_ret; exact ⟨v, rfl, ho, hb⟩
theorem keys_any (w : World) : Calls Tryz.prog 56 #[] w fun e w' => ∃ v, e = .returned v ∧ w'.ownsRow w.heap.size 89 1 v 64 (u32L keyL) ∧ Below w.heap.size w w' := by
 have h := callsIn_wide.1 (roots_cube 64 (by decide) w); rw [keyVals] at h; have H := Lib.hid h; clear h
 go_enter Tryz.func56, Tryz.ntmps56
 go_wp2_with (go_at_call 77; refine (H.out).mono ?_; rintro e w' ⟨v, rfl, ho, hb⟩)
 go_ret; exact ⟨v, rfl, ho, hb⟩
end Go.Proofs.YtolbhliepkcihaaGreatDoor.Sha
end
section
namespace Go.Proofs.YtolbhliepkcihaaGreatDoor.Sha
open Go.RowKit QR Mem YtolbhliepkcihaaGreatDoorW.PrintWords YtolbhliepkcihaaGreatDoorW.PrintLast YtolbhliepkcihaaGreatDoorW.PrintMore
theorem wpList_load_at {P : Program} {ops : Array Oper} {rest : List Oper} {o : Oper} {a : Act} {w : World} {Q : Exit → Act → World → Prop} (hgd : o.guard = none) (ty : TypeId) (x : Operand) (ho : o.op = .load ty x)
  (A : Addr) (hx : a.eval x = .pointer (some A)) (v : Value) (hv : (loadVar ty A).run P w = .ok v w)
  (h : wpList P ops Q rest (a.put o.dst v) w) : wpList P ops Q (o :: rest) a w :=
 wpList_plain hgd fun _ hK => by
  unfold Oper.wp execOp; simp only [ho, hx, Instr.loadAt, Instr.sureAddr, Sem.run_bind, Sem.run_pure, Result.andThen_ok, hv]; exact hK _ _ h
def strLen : Value → Nat
 | .string s => s.size
 | _ => 0
theorem arrayAt8 (A : Option Addr) (c : Nat) (w : World) : (Instr.arrayAt 91 (.slice A 8 c)).run Tryz.prog w = .ok (.pointer A) w := by
 have hu : Tryz.prog.underlying 91 = some (.array 8 89) := by kernel_rfl
 simp [Instr.arrayAt, run_underlying hu]
theorem load8 (f : Nat → Int) (g c : Nat) (w : World) (h : ∀ i, i < 8 → w.cell? ⟨g, c + i, none⟩ = some (.int .u32 (f i))) : (loadVar 91 ⟨g, c, none⟩).run Tryz.prog w = .ok (.agg (ka .u32 8 f)) w := by
 have hl : (loadCells ⟨g, c, none⟩ (ka .u32 8 f).toList.length).run Tryz.prog w = .ok (ka .u32 8 f).toList.toArray w :=
  run_loadCells_list (P := Tryz.prog) w ⟨g, c, none⟩ (ka .u32 8 f).toList (fun j v hv => by
   have hj : j < 8 := by
    have := (List.getElem?_eq_some_iff.1 hv).1; rw [Array.length_toList, ka_size] at this; exact this
   have hadd : (⟨g, c, none⟩ : Addr).add j = ⟨g, c + j, none⟩ := by unfold Addr.add; split <;> simp_all
   rw [hadd, h j hj, ← ka_at f hj]
   simpa using hv)
 have hi := size8 f; have hu := Tryz.underlying91
 cases hq : Tryz.prog.info? 91 with
 | none => simp [hq] at hi
 | some i =>
  have hs : i.size = (ka .u32 8 f).size := by simpa [hq] using hi
  have hagg : (isAgg 91).run Tryz.prog w = .ok true w := by
   unfold isAgg; rw [Sem.run_bind, run_underlying hu w]; rfl
  simp only [Array.length_toList, Array.toArray_toList] at hl; simp [loadVar, Sem.run_bind, hagg, sizeOf, typeInfo, hq, hs, hl]
theorem index8 (f : Nat → Int) (t : Nat) (ht : t < 8) (w : World) : (Instr.index 91 (.agg (ka .u32 8 f)) (.int .i64 (t : Int))).run Tryz.prog w = .ok (.int .u32 (f t)) w := by
 have hs : (sizeOf 89).run Tryz.prog w = .ok 1 w := by kernel_rfl
 have ha : (isAgg 89).run Tryz.prog w = .ok false w := by kernel_rfl
 simp [Instr.index, asIntOf, run_underlying Tryz.underlying91, ht, hs, part, ha, Sem.run_bind, Result.andThen, ka_at _ ht]
theorem own_cells {w : World} {base : Nat} {e : TypeId} {n : Nat} {v : Value} {l : List Nat} (h : w.ownsRow base e 1 v n (u32L l)) (hn : 0 < n) :
  ∃ g cap, v = .slice (some ⟨g, 0, none⟩) n cap ∧ base ≤ g ∧ n ≤ cap ∧ g < w.heap.size ∧ ∀ i, i < n → w.cell? ⟨g, i, none⟩ = some (.int .u32 ((l.getD i 0 : Nat) : Int)) := by
 have hlen : l.length = n := by have := h.1; simpa [u32L] using this
 have h0 := h
 rcases h.2 with ⟨_, h1⟩ | ⟨g, cap, cur, rfl, hb, hg, hc, _⟩
 ·omega
 ·refine ⟨g, cap, rfl, hb, hc, (Array.getElem?_eq_some_iff.1 hg).1, fun i hi => ?_⟩; have h2 : w.ownsRow base e 1 (.slice (some ⟨g, 0, none⟩) n cap) n (u32L l) := h0; rw [h2.cellAt i (by omega)]; simp [u32L, List.getD_eq_getElem?_getD, List.getElem?_eq_getElem (show i < l.length by omega)]
theorem start_at (i : Nat) (hi : i < 8) : startL.getD i 0 = start.at i := by
 have : i = 0 ∨ i = 1 ∨ i = 2 ∨ i = 3 ∨ i = 4 ∨ i = 5 ∨ i = 6 ∨ i = 7 := by omega
 rcases this with rfl | rfl | rfl | rfl | rfl | rfl | rfl | rfl <;> rfl
theorem pad_size (s : ByteArray) : (padS s).size = s.size + 9 + zerosN s.size := by
 unfold padS; rw [ByteArray.size_append, ByteArray.size_append, ByteArray.size_append, ofNats_size, ofNats_size, List.length_replicate]; have h1 : (⟨#[128]⟩ : ByteArray).size = 1 := rfl
 have h2 : ∀ n, (high8 n).length = 8 := fun _ => rfl
 rw [h1, h2]
 omega
theorem pad_mod (s : ByteArray) : (padS s).size % 64 = 0 := by rw [pad_size]; unfold zerosN; omega
theorem extract_size (p : ByteArray) (i : Nat) (h : 64 * i + 64 ≤ p.size) : (p.extract (64 * i) (64 * i + 64)).size = 64 := by rw [ByteArray.size_extract]; omega
def outTo (s : St) (t : Nat) : List Nat := (s.list.take t).flatMap high4
theorem outTo_succ (s : St) (t : Nat) (ht : t < 8) : outTo s (t + 1) = outTo s t ++ high4 (s.at t) := by
 unfold outTo; have hl : s.list.length = 8 := rfl; rw [List.take_succ_eq_append_getElem (by omega), List.flatMap_append]
 congr 1
 simp only [List.flatMap_cons, List.flatMap_nil, List.append_nil]
 congr 1
 unfold St.at; rw [List.getD_eq_getElem?_getD, List.getElem?_eq_getElem (by omega)]; rfl
theorem outTo_length (s : St) : ∀ t, t ≤ 8 → (outTo s t).length = 4 * t
 | 0, _ => rfl
 | t + 1, h => by rw [outTo_succ s t (by omega), List.length_append, outTo_length s t (by omega)]; simp [high4]; omega
theorem u8_info : (Tryz.prog.info? 5).map (fun i => (i.zero, i.size, i.bytes)) = some (some (.int .u8 0), 1, 1) := by kernel_rfl
theorem ints_append (a b : List Nat) : ints (a ++ b) = ints a ++ ints b := by simp [ints]
theorem below_alloc_grown {B : Nat} {w W W' : World} {row : Option Nat} {o : Obj} (h : Below B w W) (hB : B ≤ W.heap.size) (hg : (W.alloc o).grownBy W' row) (hr : ∀ k, row = some k → B ≤ k) : Below B w W' :=
 (h.alloc hB o).grown hg (by simp; omega) hr
set_option maxRecDepth 100000 in
set_option maxHeartbeats 4000000 in
theorem sum_any (s : ByteArray) (hs : s.size ≤ 1099511627776) (w : World) :
  Calls Tryz.prog 40 #[.string s] w fun e w' => e = .returned (.string (sumS s)) ∧ Below w.heap.size w w' := by
 obtain ⟨g, hg⟩ : ∃ g, w.heap.size = g := ⟨_, rfl⟩
 have HG := Lib.hid hg; have hmod := pad_mod s; have hps := pad_size s
 have hzn : zerosN s.size ≤ 63 := by unfold zerosN; omega
 have HPAD := Lib.hid (pad_any s hs); have hsum : sumS s = ofNats (outL (goS (padS s) ((padS s).size / 64))) := rfl; have HSUM := Lib.hid hsum
 obtain ⟨N, hN⟩ : ∃ N, (padS s).size / 64 = N := ⟨_, rfl⟩
 have hpN : (padS s).size = 64 * N := by omega
 have hN1 : 64 * N ≤ 1099511627776 + 72 := by omega
 rw [hN] at HSUM; have HP := Lib.hid hpN; clear hsum hmod hps hzn hpN hN hs; generalize padS s = p at *; generalize sumS s = sm at *; rw [hg]
 go_enter Tryz.func40, Tryz.ntmps40
 go_wp2_with fail
 refine (keys_any _).mono ?_
 rintro e w1 ⟨v1, rfl, ho1, hb1⟩
 obtain ⟨kb, kcap, rfl, hkb, hkc, hkl, hk⟩ := own_cells ho1 (by decide); have HK := Lib.hid hk; clear ho1 hk
 go_wp2_with fail
 refine (start_any _).mono ?_
 rintro e w2 ⟨v2, rfl, ho2, hb2⟩
 obtain ⟨sb, scap, rfl, hsb, hsc, hsl, hst⟩ := own_cells ho2 (by decide); have harr := arrayAt8 (some ⟨sb, 0, none⟩) scap; have hld := Lib.hid (load8 (fun i => ((start.at i : Nat) : Int)) sb 0 w2 (fun i hi => by rw [Nat.zero_add, hst i hi, start_at i hi])); clear ho2 hst
 have bw2 : Below g w w2 := by rw [← hg]; exact Bel.step hb1 hb2
 have hz2 : g ≤ w2.heap.size := by have := bw2.size; omega
 have HK2 : ∀ i, i < 64 → w2.cell? ⟨kb, i, none⟩ = some (.int .u32 ((keyN i : Nat) : Int)) := fun i hi => (World.cell?_of_block (a := ⟨kb, i, none⟩) (hb2.block kb hkl)).trans (HK.out i hi)
 have hkl2 : kb < w2.heap.size := Nat.lt_of_lt_of_le hkl hb2.size; have HKK := Lib.hid HK2; clear HK2
 obtain ⟨nb, hnb⟩ : ∃ nb, w2.heap.size = nb := ⟨_, rfl⟩
 have A2 := Blk.new w2 91 (ka .u32 8 fun _ => 0); have b2 := bw2.alloc hz2 (.cells (ka .u32 8 fun _ => 0) 91); have k2 := ((Below.refl w2.heap.size w2).alloc (Nat.le_refl _) (.cells (ka .u32 8 fun _ => 0) 91)); rw [hnb] at A2 hz2 hkl2 k2; clear hg
 go_wp2_with (first | (refine wpList_load_at rfl 91 _ rfl ⟨sb, 0, none⟩ rfl _ hld.out ?_) | (rw [zero8]; refine wpList_store_row rfl 91 _ _ rfl nb start.arr rfl rfl 91 _ A2 (size8s _) (by rw [St.arr_eq, ka_size, ka_size]) (one8s _) ?_; have A3 := A2.row start.arr; have b3 := below_row b2 hz2 start.arr; have k3 := below_row k2 (Nat.le_refl nb) start.arr; generalize (w2.alloc (.cells (ka .u32 8 fun _ => 0) 91)).setRow nb start.arr = w3 at *) | (go_at_call 58; refine (HPAD.out _).mono ?_; rintro e w4 ⟨rfl, hb4⟩))
 have A4 := A3.below hb4 A3.lt; have k4 : Below nb w2 w4 := k3.trans (hb4.mono (Nat.le_of_lt A3.lt)); clear A2 A3 b2 b3 k2 k3 hb4 hld harr
 go_loopw [5] (fun pv wr => ∃ i : Nat, i ≤ N ∧ pv = .string (p.extract (64 * i) p.size) ∧ Blk wr nb 91 (goS p i).arr ∧ Below nb w2 wr) (fun pv _ => strLen pv)
 case atStart => exact ⟨0, by omega, by rw [Nat.mul_zero, ByteArray.extract_zero_size], A4, k4⟩
 case round =>
  clear A4 k4; obtain ⟨i, hi, rfl, A4, k4⟩ := hrel
  by_cases hlt : i < N
  ·obtain ⟨q, hq⟩ : ∃ q, p.extract (64 * i) p.size = q := ⟨_, rfl⟩
   rw [hq]
   have hqs : q.size = 64 * (N - i) := by rw [← hq, ByteArray.size_extract, HP.out]; omega
   have hq64 : 64 ≤ q.size := by omega
   have hqI : (64 : Int) ≤ (q.size : Int) := by omega
   have hqn : ¬ q.toList = [] := fun h => by
    have h1 : q.data.toList = [] := by rw [← ByteArray.toList_eq]; exact h
    have h2 : q.size = 0 := by rw [← data_length, h1]; rfl
    omega
   have hqe : q.toList.isEmpty = false := by
    cases h : q.toList with
    | nil => exact absurd h hqn
    | cons => rfl
   have HQ := Lib.hid hq; have HQS := Lib.hid hqs; clear hq hqs; go_wp2; have hld := run_loadVar_row (P := Tryz.prog) wr.drew nb 91 91 _ (0, 0) _ A4.drew Tryz.underlying91 rfl (size8s _)
   go_still_tail 4, (by kernel_rfl)
   refine wpStill_load_at rfl 91 _ rfl ⟨nb, 0, none⟩ rfl _ hld ?_
   repeat still_step
   refine wpStill_nil ?_
   change wpList _ _ _ _ _ wr.drew
   clear hld
   have hblk : q.extract 0 64 = p.extract (64 * i) (64 * i + 64) := by
    rw [← HQ.out, ByteArray.extract_extract, HP.out]
    congr 1
    omega
   have hbs : (q.extract 0 64).size = 64 := by rw [ByteArray.size_extract]; omega
   have hnext : goS p (i + 1) = mixS (goS p i) (q.extract 0 64) := by rw [hblk]; rfl
   have hq2 : q.extract 64 q.size = p.extract (64 * (i + 1)) p.size := by
    rw [← HQ.out, ByteArray.extract_extract, ByteArray.size_extract]
    congr 1
    ·rw [HP.out]; omega
   generalize q.extract 0 64 = b at *; have HN := Lib.hid hnext; have HQ2 := Lib.hid hq2; have hok := Ok.go p i; have HMIX := Lib.hid (fun W h => mix_any (goS p i) hok b hbs kb kcap hkc W h)
   have hks : ∀ i, i < 64 → wr.drew.cell? ⟨kb, i, none⟩ = some (.int .u32 ((keyN i : Nat) : Int)) := fun i hi => (World.cell?_of_block (w := w2) (w' := wr.drew) (a := ⟨kb, i, none⟩) (k4.block kb hkl2)).trans (HKK.out i hi)
   have HKS := Lib.hid hks; clear hnext hq2 hok hbs hblk hks
   go_wp2_with (first | (go_at_call 59; refine (HMIX.out _ HKS.out).mono ?_; rintro e w5 ⟨rfl, hb5⟩; have A5 := A4.drew.below hb5 A4.lt; have k5 := (Mem.below_drew k4).trans (hb5.mono (Nat.le_of_lt A4.lt))) | (refine wpList_store_row rfl 91 _ _ rfl nb _ rfl rfl 91 _ A5 (size8s _) (by rw [St.arr_eq, St.arr_eq, ka_size, ka_size]) (one8s _) ?_; have A6 := A5.row (mixS (goS p i) b).arr; have k6 := below_row k5 (Nat.le_refl nb) (mixS (goS p i) b).arr; generalize w5.setRow nb (mixS (goS p i) b).arr = w6 at *))
   go_roundw
   case rel => exact ⟨i + 1, by omega, by rw [← HQ2.out], by rw [HN.out]; exact A6, k6⟩
   case measure => have h := HQS.out; simp [strLen, ByteArray.size_extract]; omega
  ·obtain rfl : i = N := by omega
   have he : p.extract (64 * i) p.size = ⟨#[]⟩ := by
    apply ByteArray.ext; apply Array.eq_empty_of_size_eq_zero
    have : (p.extract (64 * i) p.size).size = 0 := by rw [ByteArray.size_extract, HP.out]; omega
    exact this
   rw [he]; clear he; have bw : Below g w wr := bw2.trans (k4.mono hz2)
   obtain ⟨st, hst⟩ : ∃ st, goS p i = st := ⟨_, rfl⟩
   rw [hst] at HSUM A4; clear hst
   go_wp2_with (first | (refine wpList_load_row rfl 91 _ rfl nb rfl 91 _ (0, 0) _ A4 Tryz.underlying91 rfl (size8s _) ?_))
   clear A4 k4
   go_loopw [6, 25] (fun v iv wi => ∃ t : Nat, t ≤ 8 ∧ iv = .int .i64 t ∧ wi.ownsRow g 5 1 v (4 * t) (nums .u8 (ints (outTo st t))) ∧ Below g w wi) (fun _ iv _ => 8 - (intOf iv).toNat)
   case atStart => exact ⟨0, by omega, rfl, World.ownsRow_nil _ _ _ _, bw⟩
   case round =>
    clear bw; obtain ⟨t, ht, rfl, hO, bw⟩ := hrel
    by_cases hlt : t < 8
    ·have hix := index8 (fun i => ((st.at i : Nat) : Int)) t hlt; rw [← St.arr_eq] at hix
     obtain ⟨x, hx⟩ : ∃ x, st.at t = x := ⟨_, rfl⟩
     rw [hx] at hix; have HX := Lib.hid hx; clear hx; obtain ⟨bi, hbi, hbz, hb1, hb2⟩ := info_parts u8_info
     have hgw : g ≤ wr.heap.size := by have h1 := bw.size; rw [HG.out] at h1; exact h1
     go_wp2_with (at_builtin; refine wpList_append_own _ rfl _ _ _ rfl g 5 bi (.int .u8 0) 1 1 Tryz.underlying74 hbi hbz hb1 hb2 rfl (by decide) _ (4 * t) _ (by rfl) (hO.alloc _) ⟨wr.heap.size, 0, none⟩ 4 4 [.int .u8 ((x : Int) / 16777216 % 256), .int .u8 ((x : Int) / 65536 % 256), .int .u8 ((x : Int) / 256 % 256), .int .u8 ((x : Int) % 256)] (by rfl) (by rfl) (World.news_of_block (cs := #[.int .u8 ((x : Int) / 16777216 % 256), .int .u8 ((x : Int) / 65536 % 256), .int .u8 ((x : Int) / 256 % 256), .int .u8 ((x : Int) % 256)]) (t := 5) (fr := (0, 0)) (heap_alloc_new wr _)) (by simp [Value.oneCell']) (by simp only [maxLen]; omega) (by omega) (by simp; omega) ?_; intro v5 w5 O5 G5 _)
     go_roundw
     case rel =>
      refine ⟨t + 1, by omega, by go_num, ?_, ?_⟩
      ·have e : nums .u8 (ints (outTo st (t + 1))) = nums .u8 (ints (outTo st t)) ++ [.int .u8 ((x : Int) / 16777216 % 256), .int .u8 ((x : Int) / 65536 % 256), .int .u8 ((x : Int) / 256 % 256), .int .u8 ((x : Int) % 256)] := by
        rw [outTo_succ st t hlt, HX.out, ints_append, nums_append]; rfl
       rw [e]; exact O5
      ·exact below_alloc_grown bw hgw G5 (fun k hk => (hO.lt k hk).1)
     case measure => simp [intOf]; omega
    ·obtain rfl : t = 8 := by omega
     rw [show ((8 : Nat) : Int) = 8 from rfl]; have hcv := own_string (P := Tryz.prog) (src := 74) (dst := 9) Tryz.underlying74 Tryz.underlying5 Tryz.underlying9 hO; go_wp2; go_ret; refine ⟨?_, bw⟩; rw [HSUM.out]; have e : outTo st 8 = outL st := rfl
     show Ending.returned (.string (strOfNums (ints (outTo st 8)))) = _
     rw [e, ofNats_eq]
end Go.Proofs.YtolbhliepkcihaaGreatDoor.Sha
end
section
namespace Go.Proofs.YtolbhliepkcihaaGreatDoor.Sha
open Go.RowKit QR YtolbhliepkcihaaGreatDoorW.PrintWords YtolbhliepkcihaaGreatDoorW.PrintLast YtolbhliepkcihaaGreatDoorW.PrintMore
theorem ofNats_append (a b : List Nat) : ofNats a ++ ofNats b = ofNats (a ++ b) := by
 apply ByteArray.ext; simp [ofNats]
def hiL (n : Nat) : Nat → List Nat
 | 0 => []
 | j + 1 => (n / 256 ^ j % 256) :: hiL n j
theorem hiL_length (n : Nat) : ∀ j, (hiL n j).length = j
 | 0 => rfl
 | j + 1 => by simp [hiL, hiL_length n j]
theorem hiL_eight (n : Nat) : hiL n 8 = high8 n := by simp [hiL, high8]
theorem hiL_four (n : Nat) : hiL n 4 = high4 n := by simp [hiL, high4]
theorem u64n (n : Nat) (h : n < 18446744073709551616) : IntKind.u64.wrap (n : Int) = (n : Int) := by rw [wrap_u64]; omega
theorem refhigh_l0 (n m : Nat) (hn : n < 18446744073709551616) (hm : m ≤ 8) (d : Nat) : ∀ (k j : Nat), d + j = m → d < k →
  saltusref03_high.l0 k ((n / 256 ^ j : Nat) : Int) (m : Int) (ofNats (hiL n j)) (j : Int) = some (ofNats (hiL n m)) := by
 induction d with
 | zero =>
  intro k j hj hk
  obtain ⟨k, rfl⟩ : ∃ m, k = m + 1 := ⟨k - 1, by omega⟩
  obtain rfl : j = m := by omega
  simp only [saltusref03_high.l0]; rw [if_neg (by omega)]
 | succ d ih =>
  intro k j hj hk
  obtain ⟨k, rfl⟩ : ∃ m, k = m + 1 := ⟨k - 1, by omega⟩
  simp only [saltusref03_high.l0]; have hq : n / 256 ^ j < 18446744073709551616 := Nat.lt_of_le_of_lt (Nat.div_le_self _ _) hn
  have e1 : Int.tmod ((n / 256 ^ j : Nat) : Int) 256 % 256 = ((n / 256 ^ j % 256 : Nat) : Int) := by
   rw [show ((256 : Int)) = ((256 : Nat) : Int) from rfl, ← Int.ofNat_tmod]
   omega
  have e2 : IntKind.u64.wrap (Int.tdiv ((n / 256 ^ j : Nat) : Int) 256) = ((n / 256 ^ (j + 1) : Nat) : Int) := by
   rw [show ((256 : Int)) = ((256 : Nat) : Int) from rfl, ← Int.ofNat_tdiv, u64n _ (Nat.lt_of_le_of_lt (Nat.div_le_self _ _) hq), Nat.div_div_eq_div_mul, ← Nat.pow_succ]
  have e3 : strOfNums [((n / 256 ^ j % 256 : Nat) : Int)] = ofNats [n / 256 ^ j % 256] := ofNats_eq [n / 256 ^ j % 256]; rw [if_pos (by omega), e1, e2]; simp only [qv]; rw [e3, ofNats_append, if_pos (by rw [ofNats_size, ofNats_size, hiL_length]; simp; omega), wr1 j (by omega)]; exact ih k (j + 1) (by omega) (by omega)
theorem refhigh_eq (k n m : Nat) (hn : n < 18446744073709551616) (hm : m ≤ 8) (hk : m < k) : saltusref03_high.f k (n : Int) (m : Int) = some (ofNats (hiL n m)) := by
 have := refhigh_l0 n m hn hm m k 0 rfl hk; rw [Nat.pow_zero, Nat.div_one] at this; exact this
def zpad (s : ByteArray) (i : Nat) : ByteArray := (s ++ ⟨#[128]⟩) ++ ofNats (List.replicate i 0)
theorem zpad_size (s : ByteArray) (i : Nat) : (zpad s i).size = s.size + 1 + i := by
 unfold zpad; rw [ByteArray.size_append, ByteArray.size_append, ofNats_size, List.length_replicate]; rfl
theorem zpad_succ (s : ByteArray) (i : Nat) : zpad s i ++ ofNats [0] = zpad s (i + 1) := by
 unfold zpad; rw [ByteArray.append_assoc, ofNats_append]
 congr 2
 rw [List.replicate_succ']
theorem refpad_l0 (s : ByteArray) (hs : s.size ≤ 1099511627776) (d : Nat) : ∀ (k i : Nat), d + i = zerosN s.size → d + 20 < k → saltusref03_Pad.l0 k s (zpad s i) = some (padS s) := by
 have hz : zerosN s.size = (64 - (s.size + 9) % 64) % 64 := rfl
 induction d with
 | zero =>
  intro k i hi hk
  obtain ⟨k, rfl⟩ : ∃ m, k = m + 1 := ⟨k - 1, by omega⟩
  simp only [saltusref03_Pad.l0]; have hsz := zpad_size s i
  have e : IntKind.u64.wrap (8 * IntKind.u64.wrap (s.size : Int)) = ((s.size * 8 : Nat) : Int) := by
   rw [u64n _ (by omega), show (8 : Int) * (s.size : Int) = ((s.size * 8 : Nat) : Int) by omega, u64n _ (by omega)]
  have h8 := refhigh_eq k (s.size * 8) 8 (by omega) (by decide) (by omega); rw [show ((8 : Nat) : Int) = 8 from rfl, hiL_eight] at h8; rw [if_pos (by rw [hsz]; omega), e, h8]; simp only [qv]; rw [if_pos (by rw [hsz, ofNats_size]; simp [high8]; omega)]; unfold padS zpad; rw [Nat.mod_eq_of_lt (by omega), ← hi, Nat.zero_add]
 | succ d ih =>
  intro k i hi hk
  obtain ⟨k, rfl⟩ : ∃ m, k = m + 1 := ⟨k - 1, by omega⟩
  simp only [saltusref03_Pad.l0]; have hsz := zpad_size s i; have e3 : strOfNums [(0 : Int)] = ofNats [0] := ofNats_eq [0]; rw [if_neg (by rw [hsz]; omega)]; simp only [qv]; rw [e3, if_pos (by rw [hsz, ofNats_size]; simp; omega), zpad_succ]; exact ih k (i + 1) (by omega) (by omega)
theorem refpad_eq (k : Nat) (s : ByteArray) (hs : s.size ≤ 1099511627776) (hk : 100 < k) : saltusref03_Pad.f k s = some (padS s) := by
 have e3 : strOfNums [(128 : Int)] = ofNats [128] := ofNats_eq [128]
 have hz : zerosN s.size ≤ 63 := by unfold zerosN; omega
 unfold saltusref03_Pad.f; simp only [qv]; rw [e3, if_pos (by rw [ofNats_size]; simp; omega)]
 have e : s ++ ofNats [128] = zpad s 0 := by
  unfold zpad; rw [show ofNats (List.replicate 0 0) = ofNats [] from rfl]; have : (⟨#[128]⟩ : ByteArray) = ofNats [128] := rfl; rw [this, ByteArray.append_assoc, ofNats_append]; rfl
 rw [e]; exact refpad_l0 s hs (zerosN s.size) k 0 rfl (by omega)
theorem refkeys_eq : saltusref03_Keys.f = some (ints keyL) := rfl
theorem refstart_eq : saltusref03_Start.f = some (ints start.list) := rfl
theorem list_length (s : St) : (ints s.list).length = 8 := rfl
theorem refmix_l1 (s x : St) (d : Nat) : ∀ (k t : Nat), d + t = 8 → d < k →
  saltusref03_Mix.l1 k (ints s.list) (ints ((List.range t).map fun i => (x.at i + s.at i) % M)) (ints x.list) 8 (t : Int) = some (ints (addS x s).list) := by
 induction d with
 | zero =>
  intro k t ht hk
  obtain ⟨k, rfl⟩ : ∃ m, k = m + 1 := ⟨k - 1, by omega⟩
  obtain rfl : t = 8 := by omega
  simp only [saltusref03_Mix.l1]; rw [if_neg (by omega)]; rfl
 | succ d ih =>
  intro k t ht hk
  obtain ⟨k, rfl⟩ : ∃ m, k = m + 1 := ⟨k - 1, by omega⟩
  simp only [saltusref03_Mix.l1]; rw [list_length, list_length, ints_length, List.length_map, List.length_range, if_pos (by omega), if_pos (by omega), if_pos (by omega), if_pos (by omega), if_pos (by omega), rd_ints, rd_ints, wr1 t (by omega)]
  have e : (((x.list.getD t 0 : Nat) : Int) + ((s.list.getD t 0 : Nat) : Int)) % 4294967296 = (((x.at t + s.at t) % M : Nat) : Int) := by unfold St.at M; omega
  rw [e, ints_snoc]
  have e2 : ((List.range t).map fun i => (x.at i + s.at i) % M) ++ [(x.at t + s.at t) % M] = (List.range (t + 1)).map fun i => (x.at i + s.at i) % M := by rw [List.range_succ, List.map_append]; rfl
  rw [e2]; exact ih k (t + 1) (by omega) (by omega)
theorem refmix_l0 (s : St) (hs : s.Ok) (b : ByteArray) (d : Nat) : ∀ (k t : Nat), d + t = 64 → d + 20 < k →
  saltusref03_Mix.l0 k (ints s.list) (ints (rounds (wordN b) s t).list) (ints keyL) (ints (words b)) 64 (t : Int) = some (ints (mixS s b).list) := by
 have hw : (ints (words b)).length = 64 := by rw [ints_length, ← wordsTo_all, wordsTo_length]
 have hk64 : (ints keyL).length = 64 := rfl
 induction d with
 | zero =>
  intro k t ht hk
  obtain ⟨k, rfl⟩ : ∃ m, k = m + 1 := ⟨k - 1, by omega⟩
  obtain rfl : t = 64 := by omega
  simp only [saltusref03_Mix.l0]; rw [if_neg (by omega), list_length]; exact refmix_l1 s (rounds (wordN b) s 64) 8 k 0 rfl (by omega)
 | succ d ih =>
  intro k t ht hk
  obtain ⟨k, rfl⟩ : ∃ m, k = m + 1 := ⟨k - 1, by omega⟩
  simp only [saltusref03_Mix.l0]; rw [hw, hk64, if_pos (by omega), if_pos (by omega), if_pos (by omega), if_pos (by omega), rd_ints, rd_ints, wr1 t (by omega)]; have h1 : keyL.getD t 0 = keyN t := rfl; have h2 : (words b).getD t 0 = wordN b t := rfl; rw [h1, h2, refround_eq _ (Ok.rounds hs (wordN b) t)]; simp only [qv]; exact ih k (t + 1) (by omega) (by omega)
theorem refmix_eq (k : Nat) (s : St) (hs : s.Ok) (b : ByteArray) (hb : b.size = 64) (hk : 100 < k) : saltusref03_Mix.f k (ints s.list) b = some (ints (mixS s b).list) := by
 unfold saltusref03_Mix.f
 have hw : (ints (words b)).length = 64 := by rw [ints_length, ← wordsTo_all, wordsTo_length]
 rw [refkeys_eq]; simp only [qv]; rw [refwords_eq k b hb (by omega)]; simp only [qv]; rw [hw]; exact refmix_l0 s hs b 64 k 0 rfl (by omega)
theorem at_lt32 (s : St) (hs : s.Ok) (t : Nat) (ht : t < 8) : s.at t < 4294967296 := by
 have : t = 0 ∨ t = 1 ∨ t = 2 ∨ t = 3 ∨ t = 4 ∨ t = 5 ∨ t = 6 ∨ t = 7 := by omega
 rcases this with rfl | rfl | rfl | rfl | rfl | rfl | rfl | rfl
 ·exact hs.a
 ·exact hs.b
 ·exact hs.c
 ·exact hs.d
 ·exact hs.e
 ·exact hs.f
 ·exact hs.g
 ·exact hs.h
theorem refsum_l1 (s : St) (hs : s.Ok) (d : Nat) : ∀ (k t : Nat), d + t = 8 → d + 20 < k → saltusref03_Sum.l1 k (ofNats (outTo s t)) (ints s.list) 8 (t : Int) = some (ofNats (outL s)) := by
 induction d with
 | zero =>
  intro k t ht hk
  obtain ⟨k, rfl⟩ : ∃ m, k = m + 1 := ⟨k - 1, by omega⟩
  obtain rfl : t = 8 := by omega
  simp only [saltusref03_Sum.l1]; rw [if_neg (by omega)]; rfl
 | succ d ih =>
  intro k t ht hk
  obtain ⟨k, rfl⟩ : ∃ m, k = m + 1 := ⟨k - 1, by omega⟩
  simp only [saltusref03_Sum.l1]; have hx := at_lt32 s hs t (by omega); have h4 := refhigh_eq k (s.at t) 4 (by omega) (by decide) (by omega); rw [show ((4 : Nat) : Int) = 4 from rfl, hiL_four] at h4; rw [list_length, if_pos (by omega), if_pos (by omega), if_pos (by omega), rd_ints]; have h1 : s.list.getD t 0 = s.at t := rfl; rw [h1, u64n _ (by omega), h4]; simp only [qv]; rw [if_pos (by rw [ofNats_size, ofNats_size, outTo_length s t (by omega)]; simp [high4]; omega), ofNats_append, ← outTo_succ s t (by omega), wr1 t (by omega)]; exact ih k (t + 1) (by omega) (by omega)
theorem refsum_l0 (p : ByteArray) (N : Nat) (hp : p.size = 64 * N) (hN : N < 2 ^ 50) (d : Nat) : ∀ (k i : Nat), d + i = N → d + 200 < k →
  saltusref03_Sum.l0 k (ints (goS p i).list) p ((64 * i : Nat) : Int) = some (ofNats (outL (goS p N))) := by
 induction d with
 | zero =>
  intro k i hi hk
  obtain ⟨k, rfl⟩ : ∃ m, k = m + 1 := ⟨k - 1, by omega⟩
  obtain rfl : i = N := by omega
  simp only [saltusref03_Sum.l0]; rw [if_neg (by omega), list_length]; exact refsum_l1 (goS p i) (Ok.go p i) 8 k 0 rfl (by omega)
 | succ d ih =>
  intro k i hi hk
  obtain ⟨k, rfl⟩ : ∃ m, k = m + 1 := ⟨k - 1, by omega⟩
  simp only [saltusref03_Sum.l0]
  have e : wrap64 (((64 * i : Nat) : Int) + 64) = ((64 * (i + 1) : Nat) : Int) := by unfold wrap64; omega
  rw [e, if_pos (by omega), if_pos (by omega), if_pos (by omega), if_pos (by omega), Int.toNat_natCast, Int.toNat_natCast, show 64 * (i + 1) = 64 * i + 64 by omega, refmix_eq k _ (Ok.go p i) _ (extract_size p i (by omega)) (by omega)]; simp only [qv]; exact ih k (i + 1) (by omega) (by omega)
theorem refsum_eq (k : Nat) (s : ByteArray) (hs : s.size ≤ 1099511627776) (hk : s.size + 400 < k) : saltusref03_Sum.f k s = some (sumS s) := by
 unfold saltusref03_Sum.f; rw [refstart_eq]; simp only [qv]; rw [refpad_eq k s hs (by omega)]; simp only [qv]; have hmod := pad_mod s; have hps := pad_size s
 have hz : zerosN s.size ≤ 63 := by unfold zerosN; omega
 exact refsum_l0 (padS s) ((padS s).size / 64) (by omega) (by omega) ((padS s).size / 64) k 0 (by omega) (by omega)
end Go.Proofs.YtolbhliepkcihaaGreatDoor.Sha
end
section
namespace Go.Proofs.YtolbhliepkcihaaGreatDoor
open Go.RowKit YtolbhliepkcihaaGreatDoorW.PrintWords YtolbhliepkcihaaGreatDoorW.PrintLast YtolbhliepkcihaaGreatDoorW.PrintMore Sha
def most : Nat := 1099511627776
def sha_Sum.f (a0 : ByteArray) : Option ByteArray := if a0.size ≤ most then some (sumS a0) else none
theorem sha_Sum.calls (a0 : ByteArray) (r : ByteArray) (w : World) (h : sha_Sum.f a0 = some r) :
  Calls Tryz.prog 40 #[.string a0] w fun e w' => e = .returned (.string r) ∧ Below w.heap.size w w' := by
 unfold sha_Sum.f at h
 split at h
 ·obtain rfl := Option.some.inj h; exact sum_any a0 (by assumption) w
 ·cases h
def saltusref03_Pad.f (a0 : ByteArray) : Option ByteArray := if a0.size ≤ most then some (padS a0) else none
def saltusref03_Sum.f (a0 : ByteArray) : Option ByteArray := if a0.size ≤ most then some (sumS a0) else none
theorem saltusref03_Sum.calls (a0 : ByteArray) (r : ByteArray) (w : World) (h : saltusref03_Sum.f a0 = some r) :
  Calls Tryz.prog 41 #[.string a0] w fun e w' => e = .returned (.string r) ∧ Below w.heap.size w w' := by
 unfold saltusref03_Sum.f at h
 split at h
 ·obtain rfl := Option.some.inj h; exact QR.saltusref03_Sum.calls (a0.size + 500) a0 _ w (refsum_eq (a0.size + 500) a0 (by assumption) (by omega))
 ·cases h
end Go.Proofs.YtolbhliepkcihaaGreatDoor
end
section
namespace Go.Proofs.YtolbhliepkcihaaGreatDoor.Sha
open Go.RowKit YtolbhliepkcihaaGreatDoorW.PrintWords YtolbhliepkcihaaGreatDoorW.PrintLast YtolbhliepkcihaaGreatDoorW.PrintMore
theorem refsum_f (s : ByteArray) (h : s.size ≤ 1000000000000) : saltusref03_Sum.f s = some (sumS s) := if_pos (by unfold most; omega)
theorem toList_inj {a b : ByteArray} (h : a.toList = b.toList) : a = b := by
 rw [ByteArray.toList_eq, ByteArray.toList_eq] at h; exact ByteArray.ext (Array.toList_inj.mp h)
end Go.Proofs.YtolbhliepkcihaaGreatDoor.Sha
end
section
namespace Go.Proofs.YtolbhliepkcihaaGreatDoor.Mac
open Sha
def shortS (key : ByteArray) : ByteArray := if key.size > 64 then sumS key else key
def fitS (key : ByteArray) : ByteArray := shortS key ++ ofNats (List.replicate (64 - (shortS key).size) 0)
def xorS (k : ByteArray) (c : Nat) : ByteArray := ofNats ((List.range 64).map fun i => bn k i ^^^ c)
def tagS (key s : ByteArray) : ByteArray := sumS (xorS (fitS key) 92 ++ sumS (xorS (fitS key) 54 ++ s))
theorem sumS_size (s : ByteArray) : (sumS s).size = 32 := by unfold sumS; rw [ofNats_size]; rfl
theorem short_size (key : ByteArray) : (shortS key).size ≤ 64 := by
 unfold shortS
 split
 ·rw [sumS_size]; decide
 ·omega
theorem fit_size (key : ByteArray) : (fitS key).size = 64 := by
 unfold fitS; have := short_size key; rw [ByteArray.size_append, ofNats_size, List.length_replicate]
 omega
theorem xor_size (k : ByteArray) (c : Nat) : (xorS k c).size = 64 := by unfold xorS; rw [ofNats_size]; simp
theorem tag_size (key s : ByteArray) : (tagS key s).size = 32 := sumS_size _
end Go.Proofs.YtolbhliepkcihaaGreatDoor.Mac
end
section
namespace Go.Proofs.YtolbhliepkcihaaGreatDoor.Mac
open Go.RowKit Mem Sha YtolbhliepkcihaaGreatDoorW.PrintWords YtolbhliepkcihaaGreatDoorW.PrintLast YtolbhliepkcihaaGreatDoorW.PrintMore
theorem data_bn (s : ByteArray) (i : Nat) (hi : i < s.size) : (((s.data.toList.getD i 0).toNat : Nat) : Int) = ((bn s i : Nat) : Int) := by
 congr 1
 unfold bn; rw [dif_pos hi, List.getD_eq_getElem?_getD, List.getElem?_eq_getElem (by simpa using hi)]; rfl
theorem x8 (a b : Nat) (ha : a < 256) (hb : b < 256) : bits .xor .u8 (a : Int) (b : Int) = ((a ^^^ b : Nat) : Int) := u8_xor_nat a b ha hb
def xcut (k : ByteArray) (c t i : Nat) : Nat := if i < t then bn k i ^^^ c else bn k i
set_option maxRecDepth 100000 in
set_option maxHeartbeats 4000000 in
theorem with_any (k : ByteArray) (hk : k.size = 64) (c : Nat) (hc : c < 256) (kb : Nat) (w : World) (hcell : w.cell? ⟨kb, 0, none⟩ = some (.string k)) :
  Calls Tryz.prog 89 #[.int .u8 (c : Int), .pointer (some ⟨kb, 0, none⟩)] w fun e w' => e = .returned (.string (xorS k c)) ∧ Below w.heap.size w w' := by
 have hcv := Lib.run_convert_string_bytes (P := Tryz.prog) w 9 74 5 k Tryz.underlying9 Tryz.underlying74 Tryz.underlying5; rw [hk] at hcv
 obtain ⟨g, hg⟩ : ∃ g, w.heap.size = g := ⟨_, rfl⟩
 have b1 : Below g w (Lib.bytesWorld w 5 k) := by
  rw [← hg]; exact ⟨rfl, rfl, rfl, by rw [Lib.bytesWorld_size]; omega, fun i hi => Lib.bytesWorld_at_old w 5 k i hi⟩
 have c1 : ∀ j, j < 64 → (Lib.bytesWorld w 5 k).cell? ⟨g, j, none⟩ = some (.int .u8 ((xcut k c 0 j : Nat) : Int)) := fun j hj => by
  rw [← hg, Lib.bytesWorld_cell w 5 k j (by omega), data_bn k j (by omega)]; rfl
 have f1 : ∀ j, j < 64 → (Lib.bytesWorld w 5 k).frozen? ⟨g, j, none⟩ = false := fun j hj => by
  have h := Lib.bytesWorld_at_new w 5 k
  have hz : (Lib.bytesCells w 5 k).size = grownCap w k.size 0 5 := by
   have := grownCap_ge w k.size 0 5; simp [Lib.bytesCells]; omega
  have h2 := grownCap_ge w k.size 0 5; rw [hg] at h; simp [World.frozen?, h]; omega
 generalize grownCap w 64 0 5 = cap at *; have C1 := Lib.hid c1; have F1 := Lib.hid f1; have HG := Lib.hid hg; rw [hg] at hcv ⊢; clear c1 f1 hg; generalize Lib.bytesWorld w 5 k = w1 at *
 go_enter Tryz.func89, Tryz.ntmps89
 go_wp2; clear hcv hcell
 go_loopw [10] (fun i wr => ∃ t : Nat, t ≤ 64 ∧ i = .int .i64 t ∧ Hid (∀ j, j < 64 → wr.cell? ⟨g, j, none⟩ = some (.int .u8 ((xcut k c t j : Nat) : Int))) ∧ Hid (∀ j, j < 64 → wr.frozen? ⟨g, j, none⟩ = false) ∧ Below g w wr) (fun i _ => 64 - (intOf i).toNat)
 case atStart => exact ⟨0, by omega, rfl, C1, F1, b1⟩
 case round =>
  clear C1 F1 b1; obtain ⟨t, ht, rfl, C1, F1, b1⟩ := hrel
  by_cases hlt : t < 64
  ·have ct := C1.out t hlt; have ft := F1.out t hlt
   have i0 : (0 : Int) ≤ (t : Int) := by omega
   have i1 : (t : Int) < 64 := by omega
   have e0 : xcut k c t t = bn k t := if_neg (by omega); rw [e0] at ct; have hx := x8 (bn k t) c (bn_lt k t) hc; clear e0; go_wp2
   go_roundw
   case rel =>
    refine ⟨t + 1, by omega, by go_num, Lib.hid fun j hj => ?_, Lib.hid fun j hj => by rw [World.frozen?_setCell]; exact F1.out j hj, b1.setCell (p := ⟨g, t, none⟩) (Nat.le_refl _) _⟩
    by_cases hjt : j = t
    ·subst hjt; rw [World.cell?_setCell_same' _ _ _ (by rw [C1.out j hj]; rfl)]; unfold xcut; rw [if_pos (by omega)]
    ·rw [World.cell?_setCell_other _ _ _ _ (by simp <;> omega), C1.out j hj]; unfold xcut
     by_cases h2 : j < t
     ·rw [if_pos h2, if_pos (by omega)]
     ·rw [if_neg h2, if_neg (by omega)]
   case measure => simp [intOf]; omega
  ·obtain rfl : t = 64 := by omega
   rw [show ((64 : Nat) : Int) = 64 from rfl]
   have hcv2 : (convert 74 9 (.slice (some ⟨g, 0, none⟩) 64 cap)).run Tryz.prog wr = .ok (.string (strOfNums (ints ((List.range 64).map fun i => bn k i ^^^ c)))) wr := by
    refine run_convert_bytes_arg wr 74 5 Tryz.underlying74 Tryz.underlying5 g 0 64 cap (ints ((List.range 64).map fun i => bn k i ^^^ c)) (by simp [ints]) (fun i hi => ?_) 9 Tryz.underlying9; rw [Nat.zero_add, C1.out i hi]; unfold xcut; rw [if_pos hi]; simp [ints, List.getElem?_range hi]
   rw [ofNats_eq] at hcv2; go_wp2; go_ret; exact ⟨rfl, b1⟩
end Go.Proofs.YtolbhliepkcihaaGreatDoor.Mac
end
section
namespace Go.Proofs.YtolbhliepkcihaaGreatDoor.Mac
open Go.RowKit Mem Sha YtolbhliepkcihaaGreatDoorW.PrintWords YtolbhliepkcihaaGreatDoorW.PrintLast YtolbhliepkcihaaGreatDoorW.PrintMore
theorem load_str (w : World) (g : Nat) (s : ByteArray) (h : w.cell? ⟨g, 0, none⟩ = some (.string s)) : (loadVar 9 ⟨g, 0, none⟩).run Tryz.prog w = .ok (.string s) w := by
 go_simp
theorem store_str (w : World) (g : Nat) (s t : ByteArray) (h : Blk w g 9 #[.string s]) : (Instr.storeAt 9 (.pointer (some ⟨g, 0, none⟩)) (.string t)).run Tryz.prog w = .ok () (w.setCell ⟨g, 0, none⟩ (.string t)) := by
 have c := h.cell 0; have f := h.frozen 0; go_simp
set_option maxRecDepth 100000 in
set_option maxHeartbeats 4000000 in
theorem keys_any (key : ByteArray) (hk : key.size ≤ 549755813888) (w : World) :
  Calls Tryz.prog 67 #[.string key] w fun e w' => e = .returned (.tuple #[.string (xorS (fitS key) 54), .string (xorS (fitS key) 92)]) ∧ Below w.heap.size w w' := by
 obtain ⟨g, hg⟩ : ∃ g, w.heap.size = g := ⟨_, rfl⟩
 have b0 : Below g w w := by rw [← hg]; exact Below.refl _ _
 rw [hg]
 go_enter Tryz.func67, Tryz.ntmps67
 have A0 := Blk.new w 9 #[.string key]; have B0 := b0.alloc (Nat.le_of_eq hg.symm) (.cells #[.string key] 9); have HSUM := Lib.hid (sum_any key (by omega)); rw [hg] at A0
 have HW1 : Hid (∀ W : World, W.cell? ⟨g, 0, none⟩ = some (.string (fitS key)) → Calls Tryz.prog 89 #[.int .u8 54, .pointer (some ⟨g, 0, none⟩)] W fun e w' => e = .returned (.string (xorS (fitS key) 54)) ∧ Below W.heap.size W w') :=
  Lib.hid fun W h => with_any (fitS key) (fit_size key) 54 (by decide) g W h
 have HW2 : Hid (∀ W : World, W.cell? ⟨g, 0, none⟩ = some (.string (fitS key)) → Calls Tryz.prog 89 #[.int .u8 92, .pointer (some ⟨g, 0, none⟩)] W fun e w' => e = .returned (.string (xorS (fitS key) 92)) ∧ Below W.heap.size W w') :=
  Lib.hid fun W h => with_any (fitS key) (fit_size key) 92 (by decide) g W h
 by_cases hlen : key.size ≤ 64
 ·have hlenI : ¬ (64 : Int) < (key.size : Int) := by omega
  have hq : shortS key = key := if_neg (by omega); go_wp2; have A := A0; have B := B0; have hqs := hlen; generalize w.alloc (.cells #[.string key] 9) = wq at *; clear A0 B0 HSUM hlen hlenI
  obtain ⟨z, hz⟩ : ∃ z, 64 - key.size = z := ⟨_, rfl⟩
  have hw : IntKind.i64.wrap (64 - (key.size : Int)) = (z : Int) := by rw [IntKind.wrap_i64]; omega
  have hrep := fun W : World => repeat_any z (by omega) W
  have hq1 : (ofNats (List.replicate z 0)).size = z := by rw [ofNats_size]; simp
  have hfit : key ++ ofNats (List.replicate z 0) = fitS key := by unfold fitS; rw [hq, hz]
  generalize ofNats (List.replicate z 0) = zt at *; have HREP := Lib.hid hrep; have HFIT := Lib.hid hfit
  have hcat : key.size + z ≤ 9223372036854775807 := by omega
  have HA := Lib.hid (A.cell 0); have hzw := B.size; rw [hg] at hzw; clear hrep hfit hz hq hqs; refine start_ (n := 7) (S := fun w' => w'.cell? ⟨g, 0, none⟩ = some (.string key)) (ds := [6]) (bm 7 0) (by kernel_rfl) rfl rfl HA.out (fun hHeld => ?_); refine take_ (i := 0) (N := some 10) (v := .string key) (a' := ?_) (bm 7 1) rfl rfl (by kernel_rfl) (fun _ _ _ h => h) (Or.inl ⟨by rfl, ?_⟩) hHeld ?_ ?_
  ·intro w' hS; have hS1 : w'.cell? ⟨g, 0, none⟩ = some (.string key) := hS; simp [execOp, Act.eval, Instr.loadAt, Instr.sureAddr, load_str w' g key hS1]
  rotate_left; (simp only [Act.put, qs, qt, qu]; rfl); refine take_ (i := 1) (N := some 11) (v := .string key) (a' := ?_) (bm 7 3) rfl rfl (by kernel_rfl) (fun _ _ _ h => h) (Or.inl ⟨by rfl, ?_⟩) hHeld ?_ ?_
  ·intro w' hS; have hS1 : w'.cell? ⟨g, 0, none⟩ = some (.string key) := hS; simp [execOp, Act.eval, Instr.loadAt, Instr.sureAddr, load_str w' g key hS1]
  rotate_left; (simp only [Act.put, qs, qt, qu]; rfl); refine pure_ (i := 2) (N := some 12) (v := .int .i64 (key.size : Int)) (a' := ?_) (bm 7 7) rfl rfl (by kernel_rfl) (fun _ _ _ h => h) (Or.inl ⟨by rfl, ?_⟩) ?_ ?_; (intro w'; go_simp); rotate_left; (simp only [Act.put, qs, qt, qu]; rfl); refine pure_ (i := 3) (N := some 13) (v := .int .i64 (z : Int)) (a' := ?_) (bm 7 15) rfl rfl (by kernel_rfl) (fun _ _ _ h => h) (Or.inl ⟨by rfl, ?_⟩) ?_ ?_; (intro w'; go_simp); rotate_left; (simp only [Act.put, qs, qt, qu]; rfl); refine one_ (i := 4) (N := some 14) (bm 7 31) rfl rfl (by kernel_rfl) (by decide) (fun K hK => ?_); refine goes_ Tryz.func80 (by kernel_rfl) rfl #[.string ⟨#[0]⟩, .int .i64 (z : Int)] (by rfl) rfl rfl (by (try simp only [List.map_toArray, List.map_cons, List.map_nil]); first | done | rfl) ?_; refine (HREP.out _).mono ?_
  rintro e w5 ⟨rfl, hb5⟩
  refine ⟨_, rfl, ?_⟩; have A5 := A.drew.below hb5 A.lt; have c5 := A5.cell 0; refine hK.out _ _ c5 (fun hHeld => ?_); clear hK K; refine norm_ (a' := ?_) ?_ ?_; rotate_left; (simp only [Act.put, qs, qt, qu]; rfl); refine pure_ (i := 5) (N := some 15) (v := .string (fitS key)) (a' := ?_) (bm 7 63) rfl rfl (by kernel_rfl) (fun _ _ _ h => h) (Or.inl ⟨by rfl, ?_⟩) ?_ ?_
  ·intro w'; rw [← HFIT.out]; go_simp
  rotate_left; (simp only [Act.put, qs, qt, qu]; rfl); refine last_ (i := 6) (N := none) (bm 7 127) rfl rfl (by kernel_rfl) (by decide) (fun K hK => ?_); have f5 := A5.frozen 0; refine skip_ (w1 := w5.setCell ⟨g, 0, none⟩ (.string (fitS key))) rfl rfl (by simp [execOp, Act.eval, store_str w5 g key (fitS key) A5]) ?_; have A6 := A5.set_ 0 (.string (fitS key)); have B6 := ((Mem.below_drew B).trans (hb5.mono hzw)).setCell (p := ⟨g, 0, none⟩) (Nat.le_refl g) (.string (fitS key)); clear c5 f5 hb5 A B A5; generalize w5.setCell ⟨g, 0, none⟩ (.string (fitS key)) = w6 at *; have c6 := A6.cell 0; refine hK.out _ _ ?_; refine done_ (by kernel_rfl) ?_; clear hK K HREP HA hHeld
  go_wp2_with fail
  refine (HW1.out _ c6).mono ?_
  rintro e w7 ⟨rfl, hb7⟩
  have A7 := A6.below hb7 A6.lt; have c7 := A7.cell 0; have hz6 := B6.size; have B7 := B6.trans (hb7.mono (by rw [hg] at hz6; exact hz6)); have hz7 := B7.size; clear c6 A6 B6 hb7
  go_wp2_with fail
  refine (HW2.out _ c7).mono ?_
  rintro e w8 ⟨rfl, hb8⟩
  have B8 := B7.trans (hb8.mono (by rw [hg] at hz7; exact hz7)); clear c7 A7 B7 hb8 HW1 HW2; go_wp2
  go_ret2
  exact ⟨rfl, B8⟩
 ·have hlenI : (64 : Int) < (key.size : Int) := by omega
  have hq : shortS key = sumS key := if_pos (by omega)
  go_wp2_with fail
  refine (HSUM.out _).mono ?_
  rintro e w1 ⟨rfl, hb1⟩
  have hz1 := B0.size; have A1 := A0.below hb1 A0.lt; have B1 := B0.trans (hb1.mono (by rw [hg] at hz1; exact hz1))
  have hqs : (sumS key).size ≤ 64 := by rw [sumS_size]; decide
  generalize sumS key = q at *; clear A0 B0 HSUM hb1; have c1 := A1.cell 0; have f1 := A1.frozen 0; go_wp2; have A := A1.set_ 0 (.string q); have B := B1.setCell (p := ⟨g, 0, none⟩) (Nat.le_refl g) (.string q); generalize w1.setCell ⟨g, 0, none⟩ (.string q) = wq at *; clear A1 B1 c1 f1 hlen hlenI
  obtain ⟨z, hz⟩ : ∃ z, 64 - q.size = z := ⟨_, rfl⟩
  have hw : IntKind.i64.wrap (64 - (q.size : Int)) = (z : Int) := by rw [IntKind.wrap_i64]; omega
  have hrep := fun W : World => repeat_any z (by omega) W
  have hq1 : (ofNats (List.replicate z 0)).size = z := by rw [ofNats_size]; simp
  have hfit : q ++ ofNats (List.replicate z 0) = fitS key := by unfold fitS; rw [hq, hz]
  generalize ofNats (List.replicate z 0) = zt at *; have HREP := Lib.hid hrep; have HFIT := Lib.hid hfit
  have hcat : q.size + z ≤ 9223372036854775807 := by omega
  have HA := Lib.hid (A.cell 0); have hzw := B.size; rw [hg] at hzw; clear hrep hfit hz hq hqs; refine start_ (n := 7) (S := fun w' => w'.cell? ⟨g, 0, none⟩ = some (.string q)) (ds := [6]) (bm 7 0) (by kernel_rfl) rfl rfl HA.out (fun hHeld => ?_); refine take_ (i := 0) (N := some 10) (v := .string q) (a' := ?_) (bm 7 1) rfl rfl (by kernel_rfl) (fun _ _ _ h => h) (Or.inl ⟨by rfl, ?_⟩) hHeld ?_ ?_
  ·intro w' hS; have hS1 : w'.cell? ⟨g, 0, none⟩ = some (.string q) := hS; simp [execOp, Act.eval, Instr.loadAt, Instr.sureAddr, load_str w' g q hS1]
  rotate_left; (simp only [Act.put, qs, qt, qu]; rfl); refine take_ (i := 1) (N := some 11) (v := .string q) (a' := ?_) (bm 7 3) rfl rfl (by kernel_rfl) (fun _ _ _ h => h) (Or.inl ⟨by rfl, ?_⟩) hHeld ?_ ?_
  ·intro w' hS; have hS1 : w'.cell? ⟨g, 0, none⟩ = some (.string q) := hS; simp [execOp, Act.eval, Instr.loadAt, Instr.sureAddr, load_str w' g q hS1]
  rotate_left; (simp only [Act.put, qs, qt, qu]; rfl); refine pure_ (i := 2) (N := some 12) (v := .int .i64 (q.size : Int)) (a' := ?_) (bm 7 7) rfl rfl (by kernel_rfl) (fun _ _ _ h => h) (Or.inl ⟨by rfl, ?_⟩) ?_ ?_; (intro w'; go_simp); rotate_left; (simp only [Act.put, qs, qt, qu]; rfl); refine pure_ (i := 3) (N := some 13) (v := .int .i64 (z : Int)) (a' := ?_) (bm 7 15) rfl rfl (by kernel_rfl) (fun _ _ _ h => h) (Or.inl ⟨by rfl, ?_⟩) ?_ ?_; (intro w'; go_simp); rotate_left; (simp only [Act.put, qs, qt, qu]; rfl); refine one_ (i := 4) (N := some 14) (bm 7 31) rfl rfl (by kernel_rfl) (by decide) (fun K hK => ?_); refine goes_ Tryz.func80 (by kernel_rfl) rfl #[.string ⟨#[0]⟩, .int .i64 (z : Int)] (by rfl) rfl rfl (by (try simp only [List.map_toArray, List.map_cons, List.map_nil]); first | done | rfl) ?_; refine (HREP.out _).mono ?_
  rintro e w5 ⟨rfl, hb5⟩
  refine ⟨_, rfl, ?_⟩; have A5 := A.drew.below hb5 A.lt; have c5 := A5.cell 0; refine hK.out _ _ c5 (fun hHeld => ?_); clear hK K; refine norm_ (a' := ?_) ?_ ?_; rotate_left; (simp only [Act.put, qs, qt, qu]; rfl); refine pure_ (i := 5) (N := some 15) (v := .string (fitS key)) (a' := ?_) (bm 7 63) rfl rfl (by kernel_rfl) (fun _ _ _ h => h) (Or.inl ⟨by rfl, ?_⟩) ?_ ?_
  ·intro w'; rw [← HFIT.out]; go_simp
  rotate_left; (simp only [Act.put, qs, qt, qu]; rfl); refine last_ (i := 6) (N := none) (bm 7 127) rfl rfl (by kernel_rfl) (by decide) (fun K hK => ?_); have f5 := A5.frozen 0; refine skip_ (w1 := w5.setCell ⟨g, 0, none⟩ (.string (fitS key))) rfl rfl (by simp [execOp, Act.eval, store_str w5 g q (fitS key) A5]) ?_; have A6 := A5.set_ 0 (.string (fitS key)); have B6 := ((Mem.below_drew B).trans (hb5.mono hzw)).setCell (p := ⟨g, 0, none⟩) (Nat.le_refl g) (.string (fitS key)); clear c5 f5 hb5 A B A5; generalize w5.setCell ⟨g, 0, none⟩ (.string (fitS key)) = w6 at *; have c6 := A6.cell 0; refine hK.out _ _ ?_; refine done_ (by kernel_rfl) ?_; clear hK K HREP HA hHeld
  go_wp2_with fail
  refine (HW1.out _ c6).mono ?_
  rintro e w7 ⟨rfl, hb7⟩
  have A7 := A6.below hb7 A6.lt; have c7 := A7.cell 0; have hz6 := B6.size; have B7 := B6.trans (hb7.mono (by rw [hg] at hz6; exact hz6)); have hz7 := B7.size; clear c6 A6 B6 hb7
  go_wp2_with fail
  refine (HW2.out _ c7).mono ?_
  rintro e w8 ⟨rfl, hb8⟩
  have B8 := B7.trans (hb8.mono (by rw [hg] at hz7; exact hz7)); clear c7 A7 B7 hb8 HW1 HW2; go_wp2
  go_ret2
  exact ⟨rfl, B8⟩
end Go.Proofs.YtolbhliepkcihaaGreatDoor.Mac
end
section
namespace Go.Proofs.YtolbhliepkcihaaGreatDoor.Mac
open Go.RowKit Mem Sha YtolbhliepkcihaaGreatDoorW.PrintWords YtolbhliepkcihaaGreatDoorW.PrintLast YtolbhliepkcihaaGreatDoorW.PrintMore
theorem join_two (a b : ByteArray) : (⟨(Lib.join ([a, b].map (·.data.toList)) (⟨#[]⟩ : ByteArray).data.toList).toArray⟩ : ByteArray) = a ++ b := by
 apply ByteArray.ext; rw [ByteArray.data_append]; simp [Lib.join]
set_option maxRecDepth 100000 in
theorem of_any (a b : ByteArray) (hs : a.size + b.size ≤ 1099511627776) (bk c : Nat) (hc : 2 ≤ c) (w : World) (hcells : ∀ (j : Nat) x, [a, b][j]? = some x → w.cell? ⟨bk, 0 + j, none⟩ = some (.string x)) (hbk : bk < w.heap.size) :
  Calls Tryz.prog 68 #[.slice (some ⟨bk, 0, none⟩) 2 c] w fun e w' => e = .returned (.string (sumS (a ++ b))) ∧ Below w.heap.size w w' := by
 have hl : (Lib.join ([a, b].map (·.data.toList)) (⟨#[]⟩ : ByteArray).data.toList).length ≤ 140737488355328 := by
  have h := congrArg ByteArray.size (join_two a b); rw [ByteArray.size_append] at h
  have h2 : (⟨(Lib.join ([a, b].map (·.data.toList)) (⟨#[]⟩ : ByteArray).data.toList).toArray⟩ : ByteArray).size = (Lib.join ([a, b].map (·.data.toList)) (⟨#[]⟩ : ByteArray).data.toList).length := by simp [ByteArray.size]
  omega
 have hj := Tryz.strings_Join bk 0 c [a, b] ⟨#[]⟩ w hcells hbk (by simp) (by simpa using hc) hl; rw [join_two] at hj; have HJ := Lib.hid hj; have HS := Lib.hid (sum_any (a ++ b) (by rw [ByteArray.size_append]; exact hs)); clear hj hl hcells; generalize sumS (a ++ b) = r at *; generalize a ++ b = s at *
 go_enter Tryz.func68, Tryz.ntmps68
 go_wp2_with fail
 refine HJ.out.mono ?_
 rintro e w1 ⟨rfl, hb1⟩
 go_wp2_with fail
 refine (HS.out _).mono ?_
 rintro e w2 ⟨rfl, hb2⟩
 go_wp2; go_ret; exact ⟨rfl, Bel.step hb1 hb2⟩
end Go.Proofs.YtolbhliepkcihaaGreatDoor.Mac
namespace Go.Proofs.YtolbhliepkcihaaGreatDoor
open Go.RowKit YtolbhliepkcihaaGreatDoorW.PrintWords YtolbhliepkcihaaGreatDoorW.PrintLast YtolbhliepkcihaaGreatDoorW.PrintMore Sha Mac
def mac_keys.f (a0 : ByteArray) : Option (ByteArray × ByteArray) := if a0.size ≤ 549755813888 then some (xorS (fitS a0) 54, xorS (fitS a0) 92) else none
theorem mac_keys.calls (a0 : ByteArray) (r1 r2 : ByteArray) (w : World) (h : mac_keys.f a0 = some (r1, r2)) :
  Calls Tryz.prog 67 #[.string a0] w fun e w' => e = .returned (.tuple #[.string r1, .string r2]) ∧ Below w.heap.size w w' := by
 unfold mac_keys.f at h
 split at h
 ·injection h with h
  injection h with h1 h2
  subst h1; subst h2; exact keys_any a0 (by assumption) w
 ·cases h
def mac_of.f : List ByteArray → Option ByteArray
 | [a, b] => if a.size + b.size ≤ 1099511627776 then some (sumS (a ++ b)) else none
 | _ => none
theorem mac_of_own {w : World} {base : Nat} {ok : Nat → Prop} {A : Option Addr} {c : Nat} {l0 : List ByteArray} {r : ByteArray} (hR : Kd.R Kd.string 9 w base ok (.slice A l0.length c) l0) (h : mac_of.f l0 = some r) :
  Calls Tryz.prog 68 #[.slice A l0.length c] w fun e w' => e = .returned (.string r) ∧ Below w.heap.size w w' := by
 match l0, h with
 | [a, b], h =>
  have h : (if a.size + b.size ≤ 1099511627776 then some (sumS (a ++ b)) else none) = some r := h
  split at h
  ·obtain rfl := Option.some.inj h; have ho := Kd.own_of_R hR
   rcases ho.2 with ⟨e, h0⟩ | ⟨g, cap, cur, e, hb, hg, hcap, hmax, hsz, htk⟩
   ·cases h0
   ·injection e with e1 e2 e3
    subst e1; subst e3; refine of_any a b (by assumption) g c hcap w (fun j x hj => ?_) (Array.getElem?_eq_some_iff.1 hg).1; have hj2 : j < 2 := (List.getElem?_eq_some_iff.1 hj).1; rw [Nat.zero_add, ho.cellAt j (by simpa using hj2)]
    show ([a, b].map Value.string)[j]? = _
    rw [List.getElem?_map, hj]; rfl
  ·cases h
end Go.Proofs.YtolbhliepkcihaaGreatDoor
end
