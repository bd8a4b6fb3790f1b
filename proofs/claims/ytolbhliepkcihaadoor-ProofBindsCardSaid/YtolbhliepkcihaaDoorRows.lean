/-
  NARROWER THAN 'FOR EVERY INPUT', by the rows' own cells (each row's printed sentence says how): TowerHeights: laid · TowerAbove: laid · TowerFalls: laid · SkipFinds: laid · SkipHops: laid · LabelRows: laid · SkipOrder: laid · LabelJoins: laid · SkipPuts: laid · LabelMade: laid · ProofChecks: laid · ProofShows: laid · ProofBinds: laid.
  DERIVED. THE GIVEN ROWS OF THIS SEAT. 13 by the template 'for every input the law returns true; each argument reads behind the call as it read before'; 0 by the template 'total and deterministic' (their statements: YtolbhliepkcihaaDoorTotals.lean).
  GIVEN WITH THE SEED: the statements are not yours to turn. If you find one false, say at which input.
  Laid BY PROGRAM, IN A SANDBOX (cutbox-rows.mjs): the forced cells as the released guide's own fill.sh prints them over the translation 5002a9141e9dd401… (all of the seat's roots in one cut). By AI agents, Wed Nov 11 2026. No macro, syntax, notation, axiom, sorry.
-/
import Derived.Test.YtolbhliepkcihaaDoorChecked
import GoSem.Claim
import GoSem.ClaimJoined
import GoSem.ClaimMapViews
import Derived.JoinedTies
import Derived.KernelRfl
namespace Go.Proofs.YtolbhliepkcihaaDoor
/- THE CELL 'sum', in the pinned program and in every row, IS THE sha256 OF THE DUMP (.gsa) THAT YtolbhliepkcihaaDoorProg.lean LOADS. Nothing in Lean hashes anything: it is a label: what it is worth is what the hold of that sum in a sandbox is worth. -/
noncomputable def Tryd.pinned : Pinned := { name := "ytolbhliepkcihaadoor", sum := "5002a9141e9dd4015273cc5b1543d32ae25ef663f1731d77ab121a05342e6701", checked := Tryd.checked }
namespace Rows
def none {H : Type} : Left H := { results := [], args := [] }

/- WHAT THE LISTED PACKAGE-LEVEL VARIABLES READ AS WHEN THE CALL BEGINS. Each datum BY PROGRAM (the guide's laid-datum.mjs) off the statement by which the dump's own 'gosem.cut.vars' lays the variable. In a bare row this is a premise. The card (YtolbhliepkcihaaDoorCards.lean) ties it to the program's text. -/
def laid_math_bits_deBruijn64tab {H : Type} : DataW H := .agg [.lit (.int .u8 0), .lit (.int .u8 1), .lit (.int .u8 56), .lit (.int .u8 2), .lit (.int .u8 57), .lit (.int .u8 49), .lit (.int .u8 28), .lit (.int .u8 3), .lit (.int .u8 61), .lit (.int .u8 58), .lit (.int .u8 42), .lit (.int .u8 50), .lit (.int .u8 38), .lit (.int .u8 29), .lit (.int .u8 17), .lit (.int .u8 4), .lit (.int .u8 62), .lit (.int .u8 47), .lit (.int .u8 59), .lit (.int .u8 36), .lit (.int .u8 45), .lit (.int .u8 43), .lit (.int .u8 51), .lit (.int .u8 22), .lit (.int .u8 53), .lit (.int .u8 39), .lit (.int .u8 33), .lit (.int .u8 30), .lit (.int .u8 24), .lit (.int .u8 18), .lit (.int .u8 12), .lit (.int .u8 5), .lit (.int .u8 63), .lit (.int .u8 55), .lit (.int .u8 48), .lit (.int .u8 27), .lit (.int .u8 60), .lit (.int .u8 41), .lit (.int .u8 37), .lit (.int .u8 16), .lit (.int .u8 46), .lit (.int .u8 35), .lit (.int .u8 44), .lit (.int .u8 21), .lit (.int .u8 52), .lit (.int .u8 32), .lit (.int .u8 23), .lit (.int .u8 11), .lit (.int .u8 54), .lit (.int .u8 26), .lit (.int .u8 40), .lit (.int .u8 15), .lit (.int .u8 34), .lit (.int .u8 20), .lit (.int .u8 31), .lit (.int .u8 10), .lit (.int .u8 25), .lit (.int .u8 14), .lit (.int .u8 19), .lit (.int .u8 9), .lit (.int .u8 13), .lit (.int .u8 8), .lit (.int .u8 7), .lit (.int .u8 6)]

/-- 'saltuslaw15.TowerHeights': WHATEVER THE INPUT: true; the input reads as it did. -/
def towerHeightsSpec : ChangeSpec := { name := "towerHeights", fn := fun _ => fun
  | [d1, d2, d3] => { results := [.lit (.bool true)], args := [d1, d2, d3] }
  | _ => none }
def towerHeightsRow : OpenClaim := { program := "ytolbhliepkcihaadoor", sum := "5002a9141e9dd4015273cc5b1543d32ae25ef663f1731d77ab121a05342e6701", func := "saltus/saltuslaw15.TowerHeights", spec := "towerHeights", inPlace := ["math/bits.Add64", "internal/abi.NoEscape", "internal/bytealg.MakeNoZero"], unfollowed := true, recurses := true, named := ["math/bits.deBruijn64tab"], apart := false, laid := [("math/bits.deBruijn64tab", laid_math_bits_deBruijn64tab)] }
def TowerHeightsSaid : Prop := towerHeightsRow.holds Tryd.pinned (OpenSpec.ofChange towerHeightsSpec)

/-- ITS FALSE NEIGHBOUR: 'it returns false'. Refute it at one input. -/
def towerHeightsWrong : ChangeSpec := { name := "towerHeights", fn := fun _ => fun
  | [d1, d2, d3] => { results := [.lit (.bool false)], args := [d1, d2, d3] }
  | _ => none }
def TowerHeightsWrongFalsely : Prop := towerHeightsRow.holds Tryd.pinned (OpenSpec.ofChange towerHeightsWrong)

/-- 'saltuslaw15.TowerAbove': WHATEVER THE INPUT: true; the input reads as it did. -/
def towerAboveSpec : ChangeSpec := { name := "towerAbove", fn := fun _ => fun
  | [d1, d2, d3] => { results := [.lit (.bool true)], args := [d1, d2, d3] }
  | _ => none }
def towerAboveRow : OpenClaim := { program := "ytolbhliepkcihaadoor", sum := "5002a9141e9dd4015273cc5b1543d32ae25ef663f1731d77ab121a05342e6701", func := "saltus/saltuslaw15.TowerAbove", spec := "towerAbove", inPlace := ["math/bits.Add64", "internal/abi.NoEscape", "internal/bytealg.MakeNoZero"], unfollowed := true, recurses := true, named := ["math/bits.deBruijn64tab"], apart := false, laid := [("math/bits.deBruijn64tab", laid_math_bits_deBruijn64tab)] }
def TowerAboveSaid : Prop := towerAboveRow.holds Tryd.pinned (OpenSpec.ofChange towerAboveSpec)

/-- ITS FALSE NEIGHBOUR: 'it returns false'. Refute it at one input. -/
def towerAboveWrong : ChangeSpec := { name := "towerAbove", fn := fun _ => fun
  | [d1, d2, d3] => { results := [.lit (.bool false)], args := [d1, d2, d3] }
  | _ => none }
def TowerAboveWrongFalsely : Prop := towerAboveRow.holds Tryd.pinned (OpenSpec.ofChange towerAboveWrong)

/-- 'saltuslaw15.TowerFalls': WHATEVER THE INPUT: true; the input reads as it did. -/
def towerFallsSpec : ChangeSpec := { name := "towerFalls", fn := fun _ => fun
  | [d1, d2] => { results := [.lit (.bool true)], args := [d1, d2] }
  | _ => none }
def towerFallsRow : OpenClaim := { program := "ytolbhliepkcihaadoor", sum := "5002a9141e9dd4015273cc5b1543d32ae25ef663f1731d77ab121a05342e6701", func := "saltus/saltuslaw15.TowerFalls", spec := "towerFalls", inPlace := ["math/bits.Add64", "internal/abi.NoEscape", "internal/bytealg.MakeNoZero"], unfollowed := true, recurses := true, named := ["math/bits.deBruijn64tab"], apart := false, laid := [("math/bits.deBruijn64tab", laid_math_bits_deBruijn64tab)] }
def TowerFallsSaid : Prop := towerFallsRow.holds Tryd.pinned (OpenSpec.ofChange towerFallsSpec)

/-- ITS FALSE NEIGHBOUR: 'it returns false'. Refute it at one input. -/
def towerFallsWrong : ChangeSpec := { name := "towerFalls", fn := fun _ => fun
  | [d1, d2] => { results := [.lit (.bool false)], args := [d1, d2] }
  | _ => none }
def TowerFallsWrongFalsely : Prop := towerFallsRow.holds Tryd.pinned (OpenSpec.ofChange towerFallsWrong)

/-- 'saltuslaw16.SkipFinds': WHATEVER THE INPUT: true; the input reads as it did. -/
def skipFindsSpec : ChangeSpec := { name := "skipFinds", fn := fun _ => fun
  | [d1, d2, d3] => { results := [.lit (.bool true)], args := [d1, d2, d3] }
  | _ => none }
def skipFindsRow : OpenClaim := { program := "ytolbhliepkcihaadoor", sum := "5002a9141e9dd4015273cc5b1543d32ae25ef663f1731d77ab121a05342e6701", func := "saltus/saltuslaw16.SkipFinds", spec := "skipFinds", inPlace := ["math/bits.Add64", "internal/abi.NoEscape", "internal/bytealg.MakeNoZero"], unfollowed := true, recurses := true, named := ["math/bits.deBruijn64tab"], apart := false, laid := [("math/bits.deBruijn64tab", laid_math_bits_deBruijn64tab)] }
def SkipFindsSaid : Prop := skipFindsRow.holds Tryd.pinned (OpenSpec.ofChange skipFindsSpec)

/-- ITS FALSE NEIGHBOUR: 'it returns false'. Refute it at one input. -/
def skipFindsWrong : ChangeSpec := { name := "skipFinds", fn := fun _ => fun
  | [d1, d2, d3] => { results := [.lit (.bool false)], args := [d1, d2, d3] }
  | _ => none }
def SkipFindsWrongFalsely : Prop := skipFindsRow.holds Tryd.pinned (OpenSpec.ofChange skipFindsWrong)

/-- 'saltuslaw16.SkipHops': WHATEVER THE INPUT: true; the input reads as it did. -/
def skipHopsSpec : ChangeSpec := { name := "skipHops", fn := fun _ => fun
  | [d1, d2, d3] => { results := [.lit (.bool true)], args := [d1, d2, d3] }
  | _ => none }
def skipHopsRow : OpenClaim := { program := "ytolbhliepkcihaadoor", sum := "5002a9141e9dd4015273cc5b1543d32ae25ef663f1731d77ab121a05342e6701", func := "saltus/saltuslaw16.SkipHops", spec := "skipHops", inPlace := ["math/bits.Add64", "internal/abi.NoEscape", "internal/bytealg.MakeNoZero"], unfollowed := true, recurses := true, named := ["math/bits.deBruijn64tab"], apart := false, laid := [("math/bits.deBruijn64tab", laid_math_bits_deBruijn64tab)] }
def SkipHopsSaid : Prop := skipHopsRow.holds Tryd.pinned (OpenSpec.ofChange skipHopsSpec)

/-- ITS FALSE NEIGHBOUR: 'it returns false'. Refute it at one input. -/
def skipHopsWrong : ChangeSpec := { name := "skipHops", fn := fun _ => fun
  | [d1, d2, d3] => { results := [.lit (.bool false)], args := [d1, d2, d3] }
  | _ => none }
def SkipHopsWrongFalsely : Prop := skipHopsRow.holds Tryd.pinned (OpenSpec.ofChange skipHopsWrong)

/-- 'saltuslaw17.LabelRows': WHATEVER THE INPUT: true; the input reads as it did. -/
def labelRowsSpec : ChangeSpec := { name := "labelRows", fn := fun _ => fun
  | [d1, d2, d3] => { results := [.lit (.bool true)], args := [d1, d2, d3] }
  | _ => none }
def labelRowsRow : OpenClaim := { program := "ytolbhliepkcihaadoor", sum := "5002a9141e9dd4015273cc5b1543d32ae25ef663f1731d77ab121a05342e6701", func := "saltus/saltuslaw17.LabelRows", spec := "labelRows", inPlace := ["math/bits.Add64", "internal/abi.NoEscape", "internal/bytealg.MakeNoZero"], unfollowed := true, recurses := true, named := ["math/bits.deBruijn64tab"], apart := false, laid := [("math/bits.deBruijn64tab", laid_math_bits_deBruijn64tab)] }
def LabelRowsSaid : Prop := labelRowsRow.holds Tryd.pinned (OpenSpec.ofChange labelRowsSpec)

/-- ITS FALSE NEIGHBOUR: 'it returns false'. Refute it at one input. -/
def labelRowsWrong : ChangeSpec := { name := "labelRows", fn := fun _ => fun
  | [d1, d2, d3] => { results := [.lit (.bool false)], args := [d1, d2, d3] }
  | _ => none }
def LabelRowsWrongFalsely : Prop := labelRowsRow.holds Tryd.pinned (OpenSpec.ofChange labelRowsWrong)

/-- 'saltuslaw16.SkipOrder': WHATEVER THE INPUT: true; the input reads as it did. -/
def skipOrderSpec : ChangeSpec := { name := "skipOrder", fn := fun _ => fun
  | [d1, d2, d3] => { results := [.lit (.bool true)], args := [d1, d2, d3] }
  | _ => none }
def skipOrderRow : OpenClaim := { program := "ytolbhliepkcihaadoor", sum := "5002a9141e9dd4015273cc5b1543d32ae25ef663f1731d77ab121a05342e6701", func := "saltus/saltuslaw16.SkipOrder", spec := "skipOrder", inPlace := ["math/bits.Add64", "internal/abi.NoEscape", "internal/bytealg.MakeNoZero"], unfollowed := true, recurses := true, named := ["math/bits.deBruijn64tab"], apart := false, laid := [("math/bits.deBruijn64tab", laid_math_bits_deBruijn64tab)] }
def SkipOrderSaid : Prop := skipOrderRow.holds Tryd.pinned (OpenSpec.ofChange skipOrderSpec)

/-- ITS FALSE NEIGHBOUR: 'it returns false'. Refute it at one input. -/
def skipOrderWrong : ChangeSpec := { name := "skipOrder", fn := fun _ => fun
  | [d1, d2, d3] => { results := [.lit (.bool false)], args := [d1, d2, d3] }
  | _ => none }
def SkipOrderWrongFalsely : Prop := skipOrderRow.holds Tryd.pinned (OpenSpec.ofChange skipOrderWrong)

/-- 'saltuslaw17.LabelJoins': WHATEVER THE INPUT: true; the input reads as it did. -/
def labelJoinsSpec : ChangeSpec := { name := "labelJoins", fn := fun _ => fun
  | [d1, d2, d3] => { results := [.lit (.bool true)], args := [d1, d2, d3] }
  | _ => none }
def labelJoinsRow : OpenClaim := { program := "ytolbhliepkcihaadoor", sum := "5002a9141e9dd4015273cc5b1543d32ae25ef663f1731d77ab121a05342e6701", func := "saltus/saltuslaw17.LabelJoins", spec := "labelJoins", inPlace := ["internal/abi.NoEscape", "math/bits.Add64", "internal/bytealg.MakeNoZero"], unfollowed := true, recurses := true, named := ["math/bits.deBruijn64tab"], apart := false, laid := [("math/bits.deBruijn64tab", laid_math_bits_deBruijn64tab)] }
def LabelJoinsSaid : Prop := labelJoinsRow.holds Tryd.pinned (OpenSpec.ofChange labelJoinsSpec)

/-- ITS FALSE NEIGHBOUR: 'it returns false'. Refute it at one input. -/
def labelJoinsWrong : ChangeSpec := { name := "labelJoins", fn := fun _ => fun
  | [d1, d2, d3] => { results := [.lit (.bool false)], args := [d1, d2, d3] }
  | _ => none }
def LabelJoinsWrongFalsely : Prop := labelJoinsRow.holds Tryd.pinned (OpenSpec.ofChange labelJoinsWrong)

/-- 'saltuslaw16.SkipPuts': WHATEVER THE INPUT: true; the input reads as it did. -/
def skipPutsSpec : ChangeSpec := { name := "skipPuts", fn := fun _ => fun
  | [d1, d2, d3, d4] => { results := [.lit (.bool true)], args := [d1, d2, d3, d4] }
  | _ => none }
def skipPutsRow : OpenClaim := { program := "ytolbhliepkcihaadoor", sum := "5002a9141e9dd4015273cc5b1543d32ae25ef663f1731d77ab121a05342e6701", func := "saltus/saltuslaw16.SkipPuts", spec := "skipPuts", inPlace := ["math/bits.Add64", "internal/abi.NoEscape", "internal/bytealg.MakeNoZero"], unfollowed := true, recurses := true, named := ["math/bits.deBruijn64tab"], apart := false, laid := [("math/bits.deBruijn64tab", laid_math_bits_deBruijn64tab)] }
def SkipPutsSaid : Prop := skipPutsRow.holds Tryd.pinned (OpenSpec.ofChange skipPutsSpec)

/-- ITS FALSE NEIGHBOUR: 'it returns false'. Refute it at one input. -/
def skipPutsWrong : ChangeSpec := { name := "skipPuts", fn := fun _ => fun
  | [d1, d2, d3, d4] => { results := [.lit (.bool false)], args := [d1, d2, d3, d4] }
  | _ => none }
def SkipPutsWrongFalsely : Prop := skipPutsRow.holds Tryd.pinned (OpenSpec.ofChange skipPutsWrong)

/-- 'saltuslaw17.LabelMade': WHATEVER THE INPUT: true; the input reads as it did. -/
def labelMadeSpec : ChangeSpec := { name := "labelMade", fn := fun _ => fun
  | [d1, d2, d3, d4] => { results := [.lit (.bool true)], args := [d1, d2, d3, d4] }
  | _ => none }
def labelMadeRow : OpenClaim := { program := "ytolbhliepkcihaadoor", sum := "5002a9141e9dd4015273cc5b1543d32ae25ef663f1731d77ab121a05342e6701", func := "saltus/saltuslaw17.LabelMade", spec := "labelMade", inPlace := ["math/bits.Add64", "internal/abi.NoEscape", "internal/bytealg.MakeNoZero"], unfollowed := true, recurses := true, named := ["math/bits.deBruijn64tab"], apart := false, laid := [("math/bits.deBruijn64tab", laid_math_bits_deBruijn64tab)] }
def LabelMadeSaid : Prop := labelMadeRow.holds Tryd.pinned (OpenSpec.ofChange labelMadeSpec)

/-- ITS FALSE NEIGHBOUR: 'it returns false'. Refute it at one input. -/
def labelMadeWrong : ChangeSpec := { name := "labelMade", fn := fun _ => fun
  | [d1, d2, d3, d4] => { results := [.lit (.bool false)], args := [d1, d2, d3, d4] }
  | _ => none }
def LabelMadeWrongFalsely : Prop := labelMadeRow.holds Tryd.pinned (OpenSpec.ofChange labelMadeWrong)

/-- 'saltuslaw18.ProofChecks': WHATEVER THE INPUT: true; the input reads as it did. -/
def proofChecksSpec : ChangeSpec := { name := "proofChecks", fn := fun _ => fun
  | [d1, d2, d3] => { results := [.lit (.bool true)], args := [d1, d2, d3] }
  | _ => none }
def proofChecksRow : OpenClaim := { program := "ytolbhliepkcihaadoor", sum := "5002a9141e9dd4015273cc5b1543d32ae25ef663f1731d77ab121a05342e6701", func := "saltus/saltuslaw18.ProofChecks", spec := "proofChecks", inPlace := ["internal/abi.NoEscape", "math/bits.Add64", "internal/bytealg.MakeNoZero"], unfollowed := true, recurses := true, named := ["math/bits.deBruijn64tab"], apart := false, laid := [("math/bits.deBruijn64tab", laid_math_bits_deBruijn64tab)] }
def ProofChecksSaid : Prop := proofChecksRow.holds Tryd.pinned (OpenSpec.ofChange proofChecksSpec)

/-- ITS FALSE NEIGHBOUR: 'it returns false'. Refute it at one input. -/
def proofChecksWrong : ChangeSpec := { name := "proofChecks", fn := fun _ => fun
  | [d1, d2, d3] => { results := [.lit (.bool false)], args := [d1, d2, d3] }
  | _ => none }
def ProofChecksWrongFalsely : Prop := proofChecksRow.holds Tryd.pinned (OpenSpec.ofChange proofChecksWrong)

/-- 'saltuslaw18.ProofShows': WHATEVER THE INPUT: true; the input reads as it did. -/
def proofShowsSpec : ChangeSpec := { name := "proofShows", fn := fun _ => fun
  | [d1, d2, d3, d4] => { results := [.lit (.bool true)], args := [d1, d2, d3, d4] }
  | _ => none }
def proofShowsRow : OpenClaim := { program := "ytolbhliepkcihaadoor", sum := "5002a9141e9dd4015273cc5b1543d32ae25ef663f1731d77ab121a05342e6701", func := "saltus/saltuslaw18.ProofShows", spec := "proofShows", inPlace := ["math/bits.Add64", "internal/abi.NoEscape", "internal/bytealg.MakeNoZero"], unfollowed := true, recurses := true, named := ["math/bits.deBruijn64tab"], apart := false, laid := [("math/bits.deBruijn64tab", laid_math_bits_deBruijn64tab)] }
def ProofShowsSaid : Prop := proofShowsRow.holds Tryd.pinned (OpenSpec.ofChange proofShowsSpec)

/-- ITS FALSE NEIGHBOUR: 'it returns false'. Refute it at one input. -/
def proofShowsWrong : ChangeSpec := { name := "proofShows", fn := fun _ => fun
  | [d1, d2, d3, d4] => { results := [.lit (.bool false)], args := [d1, d2, d3, d4] }
  | _ => none }
def ProofShowsWrongFalsely : Prop := proofShowsRow.holds Tryd.pinned (OpenSpec.ofChange proofShowsWrong)

/-- 'saltuslaw18.ProofBinds': WHATEVER THE INPUT: true; the input reads as it did. -/
def proofBindsSpec : ChangeSpec := { name := "proofBinds", fn := fun _ => fun
  | [d1, d2, d3, d4] => { results := [.lit (.bool true)], args := [d1, d2, d3, d4] }
  | _ => none }
def proofBindsRow : OpenClaim := { program := "ytolbhliepkcihaadoor", sum := "5002a9141e9dd4015273cc5b1543d32ae25ef663f1731d77ab121a05342e6701", func := "saltus/saltuslaw18.ProofBinds", spec := "proofBinds", inPlace := ["math/bits.Add64", "internal/abi.NoEscape", "internal/bytealg.MakeNoZero"], unfollowed := true, recurses := true, named := ["math/bits.deBruijn64tab"], apart := false, laid := [("math/bits.deBruijn64tab", laid_math_bits_deBruijn64tab)] }
def ProofBindsSaid : Prop := proofBindsRow.holds Tryd.pinned (OpenSpec.ofChange proofBindsSpec)

/-- ITS FALSE NEIGHBOUR: 'it returns false'. Refute it at one input. -/
def proofBindsWrong : ChangeSpec := { name := "proofBinds", fn := fun _ => fun
  | [d1, d2, d3, d4] => { results := [.lit (.bool false)], args := [d1, d2, d3, d4] }
  | _ => none }
def ProofBindsWrongFalsely : Prop := proofBindsRow.holds Tryd.pinned (OpenSpec.ofChange proofBindsWrong)

/- THE SECOND FORM. 'bulk': how many values and letters a reading holds, each counted each time it is reached (what is shared counts as often as it is met; a slice's spare places count too). A statement '..UptoSaid' is the law's where the arguments, and the package variables that the reading takes, are together of bulk at most 1048576: NARROWER than '..Said'. Prove '..Said' where nothing that the law and all that it calls make is longer than what came in: it says more and counts as full. Else prove '..UptoSaid'. A law counts once. -/
mutual
def uptoBulk {H : Type} : DataW H → Nat
  | .lit (.string bytes) => bytes.length + 1
  | .lit _ => 1
  | .nil => 1
  | .ptr d => uptoBulk d + 1
  | .slice elems spare => uptoBulkAll elems + uptoBulkAll spare + 1
  | .agg parts => uptoBulkAll parts + 1
  | .iface _ d => uptoBulk d + 1
  | .map entries => uptoBulkEntries entries + 1
  | .held _ => 1
def uptoBulkAll {H : Type} : List (DataW H) → Nat
  | [] => 0
  | d :: r => uptoBulk d + uptoBulkAll r
def uptoBulkEntries {H : Type} : List (Lit × DataW H) → Nat
  | [] => 0
  | x :: r => uptoBulkEntry x + uptoBulkEntries r
def uptoBulkEntry {H : Type} : Lit × DataW H → Nat
  | (.string bytes, d) => bytes.length + uptoBulk d + 1
  | (_, d) => uptoBulk d + 1
 end
def uptoSmall : (H : Type) → List (DataW H) → Bool := fun _ ds => decide (uptoBulkAll ds ≤ 1048576)
def OpenSpec.upto (s : _root_.Go.ChangeSpec) : _root_.Go.OpenSpec := { _root_.Go.OpenSpec.ofChange s with cond := some uptoSmall }

/-- 'saltuslaw15.TowerHeights', WHERE WHAT IT READS IS OF BULK AT MOST 1048576: true; the input reads as it did. -/
def towerHeightsUptoRow : OpenClaim := { program := "ytolbhliepkcihaadoor", sum := "5002a9141e9dd4015273cc5b1543d32ae25ef663f1731d77ab121a05342e6701", func := "saltus/saltuslaw15.TowerHeights", spec := "towerHeights", inPlace := ["math/bits.Add64", "internal/abi.NoEscape", "internal/bytealg.MakeNoZero"], unfollowed := true, recurses := true, named := ["math/bits.deBruijn64tab"], apart := false, laid := [("math/bits.deBruijn64tab", laid_math_bits_deBruijn64tab)], narrowed := true }
def TowerHeightsUptoSaid : Prop := towerHeightsUptoRow.holds Tryd.pinned (OpenSpec.upto towerHeightsSpec)

/-- 'saltuslaw15.TowerAbove', WHERE WHAT IT READS IS OF BULK AT MOST 1048576: true; the input reads as it did. -/
def towerAboveUptoRow : OpenClaim := { program := "ytolbhliepkcihaadoor", sum := "5002a9141e9dd4015273cc5b1543d32ae25ef663f1731d77ab121a05342e6701", func := "saltus/saltuslaw15.TowerAbove", spec := "towerAbove", inPlace := ["math/bits.Add64", "internal/abi.NoEscape", "internal/bytealg.MakeNoZero"], unfollowed := true, recurses := true, named := ["math/bits.deBruijn64tab"], apart := false, laid := [("math/bits.deBruijn64tab", laid_math_bits_deBruijn64tab)], narrowed := true }
def TowerAboveUptoSaid : Prop := towerAboveUptoRow.holds Tryd.pinned (OpenSpec.upto towerAboveSpec)

/-- 'saltuslaw15.TowerFalls', WHERE WHAT IT READS IS OF BULK AT MOST 1048576: true; the input reads as it did. -/
def towerFallsUptoRow : OpenClaim := { program := "ytolbhliepkcihaadoor", sum := "5002a9141e9dd4015273cc5b1543d32ae25ef663f1731d77ab121a05342e6701", func := "saltus/saltuslaw15.TowerFalls", spec := "towerFalls", inPlace := ["math/bits.Add64", "internal/abi.NoEscape", "internal/bytealg.MakeNoZero"], unfollowed := true, recurses := true, named := ["math/bits.deBruijn64tab"], apart := false, laid := [("math/bits.deBruijn64tab", laid_math_bits_deBruijn64tab)], narrowed := true }
def TowerFallsUptoSaid : Prop := towerFallsUptoRow.holds Tryd.pinned (OpenSpec.upto towerFallsSpec)

/-- 'saltuslaw16.SkipFinds', WHERE WHAT IT READS IS OF BULK AT MOST 1048576: true; the input reads as it did. -/
def skipFindsUptoRow : OpenClaim := { program := "ytolbhliepkcihaadoor", sum := "5002a9141e9dd4015273cc5b1543d32ae25ef663f1731d77ab121a05342e6701", func := "saltus/saltuslaw16.SkipFinds", spec := "skipFinds", inPlace := ["math/bits.Add64", "internal/abi.NoEscape", "internal/bytealg.MakeNoZero"], unfollowed := true, recurses := true, named := ["math/bits.deBruijn64tab"], apart := false, laid := [("math/bits.deBruijn64tab", laid_math_bits_deBruijn64tab)], narrowed := true }
def SkipFindsUptoSaid : Prop := skipFindsUptoRow.holds Tryd.pinned (OpenSpec.upto skipFindsSpec)

/-- 'saltuslaw16.SkipHops', WHERE WHAT IT READS IS OF BULK AT MOST 1048576: true; the input reads as it did. -/
def skipHopsUptoRow : OpenClaim := { program := "ytolbhliepkcihaadoor", sum := "5002a9141e9dd4015273cc5b1543d32ae25ef663f1731d77ab121a05342e6701", func := "saltus/saltuslaw16.SkipHops", spec := "skipHops", inPlace := ["math/bits.Add64", "internal/abi.NoEscape", "internal/bytealg.MakeNoZero"], unfollowed := true, recurses := true, named := ["math/bits.deBruijn64tab"], apart := false, laid := [("math/bits.deBruijn64tab", laid_math_bits_deBruijn64tab)], narrowed := true }
def SkipHopsUptoSaid : Prop := skipHopsUptoRow.holds Tryd.pinned (OpenSpec.upto skipHopsSpec)

/-- 'saltuslaw17.LabelRows', WHERE WHAT IT READS IS OF BULK AT MOST 1048576: true; the input reads as it did. -/
def labelRowsUptoRow : OpenClaim := { program := "ytolbhliepkcihaadoor", sum := "5002a9141e9dd4015273cc5b1543d32ae25ef663f1731d77ab121a05342e6701", func := "saltus/saltuslaw17.LabelRows", spec := "labelRows", inPlace := ["math/bits.Add64", "internal/abi.NoEscape", "internal/bytealg.MakeNoZero"], unfollowed := true, recurses := true, named := ["math/bits.deBruijn64tab"], apart := false, laid := [("math/bits.deBruijn64tab", laid_math_bits_deBruijn64tab)], narrowed := true }
def LabelRowsUptoSaid : Prop := labelRowsUptoRow.holds Tryd.pinned (OpenSpec.upto labelRowsSpec)

/-- 'saltuslaw16.SkipOrder', WHERE WHAT IT READS IS OF BULK AT MOST 1048576: true; the input reads as it did. -/
def skipOrderUptoRow : OpenClaim := { program := "ytolbhliepkcihaadoor", sum := "5002a9141e9dd4015273cc5b1543d32ae25ef663f1731d77ab121a05342e6701", func := "saltus/saltuslaw16.SkipOrder", spec := "skipOrder", inPlace := ["math/bits.Add64", "internal/abi.NoEscape", "internal/bytealg.MakeNoZero"], unfollowed := true, recurses := true, named := ["math/bits.deBruijn64tab"], apart := false, laid := [("math/bits.deBruijn64tab", laid_math_bits_deBruijn64tab)], narrowed := true }
def SkipOrderUptoSaid : Prop := skipOrderUptoRow.holds Tryd.pinned (OpenSpec.upto skipOrderSpec)

/-- 'saltuslaw17.LabelJoins', WHERE WHAT IT READS IS OF BULK AT MOST 1048576: true; the input reads as it did. -/
def labelJoinsUptoRow : OpenClaim := { program := "ytolbhliepkcihaadoor", sum := "5002a9141e9dd4015273cc5b1543d32ae25ef663f1731d77ab121a05342e6701", func := "saltus/saltuslaw17.LabelJoins", spec := "labelJoins", inPlace := ["internal/abi.NoEscape", "math/bits.Add64", "internal/bytealg.MakeNoZero"], unfollowed := true, recurses := true, named := ["math/bits.deBruijn64tab"], apart := false, laid := [("math/bits.deBruijn64tab", laid_math_bits_deBruijn64tab)], narrowed := true }
def LabelJoinsUptoSaid : Prop := labelJoinsUptoRow.holds Tryd.pinned (OpenSpec.upto labelJoinsSpec)

/-- 'saltuslaw16.SkipPuts', WHERE WHAT IT READS IS OF BULK AT MOST 1048576: true; the input reads as it did. -/
def skipPutsUptoRow : OpenClaim := { program := "ytolbhliepkcihaadoor", sum := "5002a9141e9dd4015273cc5b1543d32ae25ef663f1731d77ab121a05342e6701", func := "saltus/saltuslaw16.SkipPuts", spec := "skipPuts", inPlace := ["math/bits.Add64", "internal/abi.NoEscape", "internal/bytealg.MakeNoZero"], unfollowed := true, recurses := true, named := ["math/bits.deBruijn64tab"], apart := false, laid := [("math/bits.deBruijn64tab", laid_math_bits_deBruijn64tab)], narrowed := true }
def SkipPutsUptoSaid : Prop := skipPutsUptoRow.holds Tryd.pinned (OpenSpec.upto skipPutsSpec)

/-- 'saltuslaw17.LabelMade', WHERE WHAT IT READS IS OF BULK AT MOST 1048576: true; the input reads as it did. -/
def labelMadeUptoRow : OpenClaim := { program := "ytolbhliepkcihaadoor", sum := "5002a9141e9dd4015273cc5b1543d32ae25ef663f1731d77ab121a05342e6701", func := "saltus/saltuslaw17.LabelMade", spec := "labelMade", inPlace := ["math/bits.Add64", "internal/abi.NoEscape", "internal/bytealg.MakeNoZero"], unfollowed := true, recurses := true, named := ["math/bits.deBruijn64tab"], apart := false, laid := [("math/bits.deBruijn64tab", laid_math_bits_deBruijn64tab)], narrowed := true }
def LabelMadeUptoSaid : Prop := labelMadeUptoRow.holds Tryd.pinned (OpenSpec.upto labelMadeSpec)

/-- 'saltuslaw18.ProofChecks', WHERE WHAT IT READS IS OF BULK AT MOST 1048576: true; the input reads as it did. -/
def proofChecksUptoRow : OpenClaim := { program := "ytolbhliepkcihaadoor", sum := "5002a9141e9dd4015273cc5b1543d32ae25ef663f1731d77ab121a05342e6701", func := "saltus/saltuslaw18.ProofChecks", spec := "proofChecks", inPlace := ["internal/abi.NoEscape", "math/bits.Add64", "internal/bytealg.MakeNoZero"], unfollowed := true, recurses := true, named := ["math/bits.deBruijn64tab"], apart := false, laid := [("math/bits.deBruijn64tab", laid_math_bits_deBruijn64tab)], narrowed := true }
def ProofChecksUptoSaid : Prop := proofChecksUptoRow.holds Tryd.pinned (OpenSpec.upto proofChecksSpec)

/-- 'saltuslaw18.ProofShows', WHERE WHAT IT READS IS OF BULK AT MOST 1048576: true; the input reads as it did. -/
def proofShowsUptoRow : OpenClaim := { program := "ytolbhliepkcihaadoor", sum := "5002a9141e9dd4015273cc5b1543d32ae25ef663f1731d77ab121a05342e6701", func := "saltus/saltuslaw18.ProofShows", spec := "proofShows", inPlace := ["math/bits.Add64", "internal/abi.NoEscape", "internal/bytealg.MakeNoZero"], unfollowed := true, recurses := true, named := ["math/bits.deBruijn64tab"], apart := false, laid := [("math/bits.deBruijn64tab", laid_math_bits_deBruijn64tab)], narrowed := true }
def ProofShowsUptoSaid : Prop := proofShowsUptoRow.holds Tryd.pinned (OpenSpec.upto proofShowsSpec)

/-- 'saltuslaw18.ProofBinds', WHERE WHAT IT READS IS OF BULK AT MOST 1048576: true; the input reads as it did. -/
def proofBindsUptoRow : OpenClaim := { program := "ytolbhliepkcihaadoor", sum := "5002a9141e9dd4015273cc5b1543d32ae25ef663f1731d77ab121a05342e6701", func := "saltus/saltuslaw18.ProofBinds", spec := "proofBinds", inPlace := ["math/bits.Add64", "internal/abi.NoEscape", "internal/bytealg.MakeNoZero"], unfollowed := true, recurses := true, named := ["math/bits.deBruijn64tab"], apart := false, laid := [("math/bits.deBruijn64tab", laid_math_bits_deBruijn64tab)], narrowed := true }
def ProofBindsUptoSaid : Prop := proofBindsUptoRow.holds Tryd.pinned (OpenSpec.upto proofBindsSpec)

end Rows
end Go.Proofs.YtolbhliepkcihaaDoor
