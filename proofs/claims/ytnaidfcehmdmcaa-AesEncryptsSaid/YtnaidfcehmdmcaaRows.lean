/-
  No cell of these rows narrows 'for every input' (looked for: loops, veiled, ifaces, maps, wideKeys, modest, calm, conditions, laid).
  DERIVED. THE GIVEN ROWS OF THIS SEAT. 10 by the template 'for every input the law returns true; each argument reads behind the call as it read before'; 0 by the template 'total and deterministic' (their statements: YtnaidfcehmdmcaaTotals.lean).
  GIVEN WITH THE SEED: the statements are not yours to turn. If you find one false, say at which input.
  Laid BY PROGRAM, IN A SANDBOX (cutbox-rows.mjs): the forced cells as the released guide's own fill.sh prints them over the translation 43fc18842afac9e8… (all of the seat's roots in one cut). By AI agents, Wed Nov 11 2026. No macro, syntax, notation, axiom, sorry.
-/
import Derived.Test.YtnaidfcehmdmcaaChecked
import GoSem.Claim
import GoSem.ClaimJoined
import GoSem.ClaimMapViews
import Derived.JoinedTies
import Derived.KernelRfl
namespace Go.Proofs.Ytnaidfcehmdmcaa
/- THE CELL 'sum', in the pinned program and in every row, IS THE sha256 OF THE DUMP (.gsa) THAT YtnaidfcehmdmcaaProg.lean LOADS. Nothing in Lean hashes anything: it is a label: what it is worth is what the hold of that sum in a sandbox is worth. -/
noncomputable def Try.pinned : Pinned := { name := "ytnaidfcehmdmcaa", sum := "43fc18842afac9e8b927b4d953df302c00a2b16c26b01e2d1757d12239d6501f", checked := Try.checked }
namespace Rows
def none {H : Type} : Left H := { results := [], args := [] }

/-- 'saltuslaw05.FieldPowers': WHATEVER THE INPUT: true; the input reads as it did. -/
def fieldPowersSpec : ChangeSpec := { name := "fieldPowers", fn := fun _ => fun
  | [d1, d2] => { results := [.lit (.bool true)], args := [d1, d2] }
  | _ => none }
def fieldPowersRow : OpenClaim := { program := "ytnaidfcehmdmcaa", sum := "43fc18842afac9e8b927b4d953df302c00a2b16c26b01e2d1757d12239d6501f", func := "saltus/saltuslaw05.FieldPowers", spec := "fieldPowers", apart := false }
def FieldPowersSaid : Prop := fieldPowersRow.holds Try.pinned (OpenSpec.ofChange fieldPowersSpec)

/-- ITS FALSE NEIGHBOUR: 'it returns false'. Refute it at one input. -/
def fieldPowersWrong : ChangeSpec := { name := "fieldPowers", fn := fun _ => fun
  | [d1, d2] => { results := [.lit (.bool false)], args := [d1, d2] }
  | _ => none }
def FieldPowersWrongFalsely : Prop := fieldPowersRow.holds Try.pinned (OpenSpec.ofChange fieldPowersWrong)

/-- 'saltuslaw05.FieldHolds': WHATEVER THE INPUT: true; the input reads as it did. -/
def fieldHoldsSpec : ChangeSpec := { name := "fieldHolds", fn := fun _ => fun
  | [d1, d2, d3] => { results := [.lit (.bool true)], args := [d1, d2, d3] }
  | _ => none }
def fieldHoldsRow : OpenClaim := { program := "ytnaidfcehmdmcaa", sum := "43fc18842afac9e8b927b4d953df302c00a2b16c26b01e2d1757d12239d6501f", func := "saltus/saltuslaw05.FieldHolds", spec := "fieldHolds", apart := false }
def FieldHoldsSaid : Prop := fieldHoldsRow.holds Try.pinned (OpenSpec.ofChange fieldHoldsSpec)

/-- ITS FALSE NEIGHBOUR: 'it returns false'. Refute it at one input. -/
def fieldHoldsWrong : ChangeSpec := { name := "fieldHolds", fn := fun _ => fun
  | [d1, d2, d3] => { results := [.lit (.bool false)], args := [d1, d2, d3] }
  | _ => none }
def FieldHoldsWrongFalsely : Prop := fieldHoldsRow.holds Try.pinned (OpenSpec.ofChange fieldHoldsWrong)

/-- 'saltuslaw05.FieldBoxes': WHATEVER THE INPUT: true; the input reads as it did. -/
def fieldBoxesSpec : ChangeSpec := { name := "fieldBoxes", fn := fun _ => fun
  | [d1, d2] => { results := [.lit (.bool true)], args := [d1, d2] }
  | _ => none }
def fieldBoxesRow : OpenClaim := { program := "ytnaidfcehmdmcaa", sum := "43fc18842afac9e8b927b4d953df302c00a2b16c26b01e2d1757d12239d6501f", func := "saltus/saltuslaw05.FieldBoxes", spec := "fieldBoxes", apart := false }
def FieldBoxesSaid : Prop := fieldBoxesRow.holds Try.pinned (OpenSpec.ofChange fieldBoxesSpec)

/-- ITS FALSE NEIGHBOUR: 'it returns false'. Refute it at one input. -/
def fieldBoxesWrong : ChangeSpec := { name := "fieldBoxes", fn := fun _ => fun
  | [d1, d2] => { results := [.lit (.bool false)], args := [d1, d2] }
  | _ => none }
def FieldBoxesWrongFalsely : Prop := fieldBoxesRow.holds Try.pinned (OpenSpec.ofChange fieldBoxesWrong)

/-- 'saltuslaw05.FieldTells': WHATEVER THE INPUT: true; the input reads as it did. -/
def fieldTellsSpec : ChangeSpec := { name := "fieldTells", fn := fun _ => fun
  | [d1, d2] => { results := [.lit (.bool true)], args := [d1, d2] }
  | _ => none }
def fieldTellsRow : OpenClaim := { program := "ytnaidfcehmdmcaa", sum := "43fc18842afac9e8b927b4d953df302c00a2b16c26b01e2d1757d12239d6501f", func := "saltus/saltuslaw05.FieldTells", spec := "fieldTells", apart := false }
def FieldTellsSaid : Prop := fieldTellsRow.holds Try.pinned (OpenSpec.ofChange fieldTellsSpec)

/-- ITS FALSE NEIGHBOUR: 'it returns false'. Refute it at one input. -/
def fieldTellsWrong : ChangeSpec := { name := "fieldTells", fn := fun _ => fun
  | [d1, d2] => { results := [.lit (.bool false)], args := [d1, d2] }
  | _ => none }
def FieldTellsWrongFalsely : Prop := fieldTellsRow.holds Try.pinned (OpenSpec.ofChange fieldTellsWrong)

/-- 'saltuslaw06.AesSteps': WHATEVER THE INPUT: true; the input reads as it did. -/
def aesStepsSpec : ChangeSpec := { name := "aesSteps", fn := fun _ => fun
  | [d] => { results := [.lit (.bool true)], args := [d] }
  | _ => none }
def aesStepsRow : OpenClaim := { program := "ytnaidfcehmdmcaa", sum := "43fc18842afac9e8b927b4d953df302c00a2b16c26b01e2d1757d12239d6501f", func := "saltus/saltuslaw06.AesSteps", spec := "aesSteps", unfollowed := true, recurses := true, apart := false }
def AesStepsSaid : Prop := aesStepsRow.holds Try.pinned (OpenSpec.ofChange aesStepsSpec)

/-- ITS FALSE NEIGHBOUR: 'it returns false'. Refute it at one input. -/
def aesStepsWrong : ChangeSpec := { name := "aesSteps", fn := fun _ => fun
  | [d] => { results := [.lit (.bool false)], args := [d] }
  | _ => none }
def AesStepsWrongFalsely : Prop := aesStepsRow.holds Try.pinned (OpenSpec.ofChange aesStepsWrong)

/-- 'saltuslaw06.AesFours': WHATEVER THE INPUT: true; the input reads as it did. -/
def aesFoursSpec : ChangeSpec := { name := "aesFours", fn := fun _ => fun
  | [d] => { results := [.lit (.bool true)], args := [d] }
  | _ => none }
def aesFoursRow : OpenClaim := { program := "ytnaidfcehmdmcaa", sum := "43fc18842afac9e8b927b4d953df302c00a2b16c26b01e2d1757d12239d6501f", func := "saltus/saltuslaw06.AesFours", spec := "aesFours", unfollowed := true, recurses := true, apart := false }
def AesFoursSaid : Prop := aesFoursRow.holds Try.pinned (OpenSpec.ofChange aesFoursSpec)

/-- ITS FALSE NEIGHBOUR: 'it returns false'. Refute it at one input. -/
def aesFoursWrong : ChangeSpec := { name := "aesFours", fn := fun _ => fun
  | [d] => { results := [.lit (.bool false)], args := [d] }
  | _ => none }
def AesFoursWrongFalsely : Prop := aesFoursRow.holds Try.pinned (OpenSpec.ofChange aesFoursWrong)

/-- 'saltuslaw06.AesKeys': WHATEVER THE INPUT: true; the input reads as it did. -/
def aesKeysSpec : ChangeSpec := { name := "aesKeys", fn := fun _ => fun
  | [d] => { results := [.lit (.bool true)], args := [d] }
  | _ => none }
def aesKeysRow : OpenClaim := { program := "ytnaidfcehmdmcaa", sum := "43fc18842afac9e8b927b4d953df302c00a2b16c26b01e2d1757d12239d6501f", func := "saltus/saltuslaw06.AesKeys", spec := "aesKeys", unfollowed := true, recurses := true, apart := false }
def AesKeysSaid : Prop := aesKeysRow.holds Try.pinned (OpenSpec.ofChange aesKeysSpec)

/-- ITS FALSE NEIGHBOUR: 'it returns false'. Refute it at one input. -/
def aesKeysWrong : ChangeSpec := { name := "aesKeys", fn := fun _ => fun
  | [d] => { results := [.lit (.bool false)], args := [d] }
  | _ => none }
def AesKeysWrongFalsely : Prop := aesKeysRow.holds Try.pinned (OpenSpec.ofChange aesKeysWrong)

/-- 'saltuslaw06.AesEncrypts': WHATEVER THE INPUT: true; the input reads as it did. -/
def aesEncryptsSpec : ChangeSpec := { name := "aesEncrypts", fn := fun _ => fun
  | [d1, d2] => { results := [.lit (.bool true)], args := [d1, d2] }
  | _ => none }
def aesEncryptsRow : OpenClaim := { program := "ytnaidfcehmdmcaa", sum := "43fc18842afac9e8b927b4d953df302c00a2b16c26b01e2d1757d12239d6501f", func := "saltus/saltuslaw06.AesEncrypts", spec := "aesEncrypts", unfollowed := true, recurses := true, apart := false }
def AesEncryptsSaid : Prop := aesEncryptsRow.holds Try.pinned (OpenSpec.ofChange aesEncryptsSpec)

/-- ITS FALSE NEIGHBOUR: 'it returns false'. Refute it at one input. -/
def aesEncryptsWrong : ChangeSpec := { name := "aesEncrypts", fn := fun _ => fun
  | [d1, d2] => { results := [.lit (.bool false)], args := [d1, d2] }
  | _ => none }
def AesEncryptsWrongFalsely : Prop := aesEncryptsRow.holds Try.pinned (OpenSpec.ofChange aesEncryptsWrong)

/-- 'saltuslaw06.AesApart': WHATEVER THE INPUT: true; the input reads as it did. -/
def aesApartSpec : ChangeSpec := { name := "aesApart", fn := fun _ => fun
  | [d1, d2, d3] => { results := [.lit (.bool true)], args := [d1, d2, d3] }
  | _ => none }
def aesApartRow : OpenClaim := { program := "ytnaidfcehmdmcaa", sum := "43fc18842afac9e8b927b4d953df302c00a2b16c26b01e2d1757d12239d6501f", func := "saltus/saltuslaw06.AesApart", spec := "aesApart", unfollowed := true, recurses := true, apart := false }
def AesApartSaid : Prop := aesApartRow.holds Try.pinned (OpenSpec.ofChange aesApartSpec)

/-- ITS FALSE NEIGHBOUR: 'it returns false'. Refute it at one input. -/
def aesApartWrong : ChangeSpec := { name := "aesApart", fn := fun _ => fun
  | [d1, d2, d3] => { results := [.lit (.bool false)], args := [d1, d2, d3] }
  | _ => none }
def AesApartWrongFalsely : Prop := aesApartRow.holds Try.pinned (OpenSpec.ofChange aesApartWrong)

/-- 'saltuslaw10.TrustSlots': WHATEVER THE INPUT: true; the input reads as it did. -/
def trustSlotsSpec : ChangeSpec := { name := "trustSlots", fn := fun _ => fun
  | [d1, d2] => { results := [.lit (.bool true)], args := [d1, d2] }
  | _ => none }
def trustSlotsRow : OpenClaim := { program := "ytnaidfcehmdmcaa", sum := "43fc18842afac9e8b927b4d953df302c00a2b16c26b01e2d1757d12239d6501f", func := "saltus/saltuslaw10.TrustSlots", spec := "trustSlots", unfollowed := true, recurses := true, apart := false }
def TrustSlotsSaid : Prop := trustSlotsRow.holds Try.pinned (OpenSpec.ofChange trustSlotsSpec)

/-- ITS FALSE NEIGHBOUR: 'it returns false'. Refute it at one input. -/
def trustSlotsWrong : ChangeSpec := { name := "trustSlots", fn := fun _ => fun
  | [d1, d2] => { results := [.lit (.bool false)], args := [d1, d2] }
  | _ => none }
def TrustSlotsWrongFalsely : Prop := trustSlotsRow.holds Try.pinned (OpenSpec.ofChange trustSlotsWrong)

/- THE SECOND FORM. 'bulk': how many values and letters a reading holds, each counted each time it is reached (what is shared counts as often as it is met; a slice's spare places count too). A statement '..UptoSaid' is the law's where the arguments, and the package variables that the reading takes, are together of bulk at most 1048576: NARROWER than '..Said'. Prove '..Said' where nothing that the law and all that it calls make is longer than what came in: it says more and counts as full. Else prove '..UptoSaid'. A law counts once. -/
mutual
def uptoBulk {H : Type} : DataW H → Nat
  | .lit (.string bytes) => bytes.length + 1
  | .lit _ => 1
  | .nil => 1
  | .ptr d => uptoBulk d + 1
  | .slice elems spare => uptoBulkAll elems + uptoBulkAll spare + 1
  | .agg parts => uptoBulkAll parts + 1
  | .iface _ d => uptoBulk d + 1
  | .map entries => uptoBulkEntries entries + 1
  | .held _ => 1
def uptoBulkAll {H : Type} : List (DataW H) → Nat
  | [] => 0
  | d :: r => uptoBulk d + uptoBulkAll r
def uptoBulkEntries {H : Type} : List (Lit × DataW H) → Nat
  | [] => 0
  | x :: r => uptoBulkEntry x + uptoBulkEntries r
def uptoBulkEntry {H : Type} : Lit × DataW H → Nat
  | (.string bytes, d) => bytes.length + uptoBulk d + 1
  | (_, d) => uptoBulk d + 1
 end
def uptoSmall : (H : Type) → List (DataW H) → Bool := fun _ ds => decide (uptoBulkAll ds ≤ 1048576)
def OpenSpec.upto (s : _root_.Go.ChangeSpec) : _root_.Go.OpenSpec := { _root_.Go.OpenSpec.ofChange s with cond := some uptoSmall }

/-- 'saltuslaw05.FieldPowers', WHERE WHAT IT READS IS OF BULK AT MOST 1048576: true; the input reads as it did. -/
def fieldPowersUptoRow : OpenClaim := { program := "ytnaidfcehmdmcaa", sum := "43fc18842afac9e8b927b4d953df302c00a2b16c26b01e2d1757d12239d6501f", func := "saltus/saltuslaw05.FieldPowers", spec := "fieldPowers", apart := false, narrowed := true }
def FieldPowersUptoSaid : Prop := fieldPowersUptoRow.holds Try.pinned (OpenSpec.upto fieldPowersSpec)

/-- 'saltuslaw05.FieldHolds', WHERE WHAT IT READS IS OF BULK AT MOST 1048576: true; the input reads as it did. -/
def fieldHoldsUptoRow : OpenClaim := { program := "ytnaidfcehmdmcaa", sum := "43fc18842afac9e8b927b4d953df302c00a2b16c26b01e2d1757d12239d6501f", func := "saltus/saltuslaw05.FieldHolds", spec := "fieldHolds", apart := false, narrowed := true }
def FieldHoldsUptoSaid : Prop := fieldHoldsUptoRow.holds Try.pinned (OpenSpec.upto fieldHoldsSpec)

/-- 'saltuslaw05.FieldBoxes', WHERE WHAT IT READS IS OF BULK AT MOST 1048576: true; the input reads as it did. -/
def fieldBoxesUptoRow : OpenClaim := { program := "ytnaidfcehmdmcaa", sum := "43fc18842afac9e8b927b4d953df302c00a2b16c26b01e2d1757d12239d6501f", func := "saltus/saltuslaw05.FieldBoxes", spec := "fieldBoxes", apart := false, narrowed := true }
def FieldBoxesUptoSaid : Prop := fieldBoxesUptoRow.holds Try.pinned (OpenSpec.upto fieldBoxesSpec)

/-- 'saltuslaw05.FieldTells', WHERE WHAT IT READS IS OF BULK AT MOST 1048576: true; the input reads as it did. -/
def fieldTellsUptoRow : OpenClaim := { program := "ytnaidfcehmdmcaa", sum := "43fc18842afac9e8b927b4d953df302c00a2b16c26b01e2d1757d12239d6501f", func := "saltus/saltuslaw05.FieldTells", spec := "fieldTells", apart := false, narrowed := true }
def FieldTellsUptoSaid : Prop := fieldTellsUptoRow.holds Try.pinned (OpenSpec.upto fieldTellsSpec)

/-- 'saltuslaw06.AesSteps', WHERE WHAT IT READS IS OF BULK AT MOST 1048576: true; the input reads as it did. -/
def aesStepsUptoRow : OpenClaim := { program := "ytnaidfcehmdmcaa", sum := "43fc18842afac9e8b927b4d953df302c00a2b16c26b01e2d1757d12239d6501f", func := "saltus/saltuslaw06.AesSteps", spec := "aesSteps", unfollowed := true, recurses := true, apart := false, narrowed := true }
def AesStepsUptoSaid : Prop := aesStepsUptoRow.holds Try.pinned (OpenSpec.upto aesStepsSpec)

/-- 'saltuslaw06.AesFours', WHERE WHAT IT READS IS OF BULK AT MOST 1048576: true; the input reads as it did. -/
def aesFoursUptoRow : OpenClaim := { program := "ytnaidfcehmdmcaa", sum := "43fc18842afac9e8b927b4d953df302c00a2b16c26b01e2d1757d12239d6501f", func := "saltus/saltuslaw06.AesFours", spec := "aesFours", unfollowed := true, recurses := true, apart := false, narrowed := true }
def AesFoursUptoSaid : Prop := aesFoursUptoRow.holds Try.pinned (OpenSpec.upto aesFoursSpec)

/-- 'saltuslaw06.AesKeys', WHERE WHAT IT READS IS OF BULK AT MOST 1048576: true; the input reads as it did. -/
def aesKeysUptoRow : OpenClaim := { program := "ytnaidfcehmdmcaa", sum := "43fc18842afac9e8b927b4d953df302c00a2b16c26b01e2d1757d12239d6501f", func := "saltus/saltuslaw06.AesKeys", spec := "aesKeys", unfollowed := true, recurses := true, apart := false, narrowed := true }
def AesKeysUptoSaid : Prop := aesKeysUptoRow.holds Try.pinned (OpenSpec.upto aesKeysSpec)

/-- 'saltuslaw06.AesEncrypts', WHERE WHAT IT READS IS OF BULK AT MOST 1048576: true; the input reads as it did. -/
def aesEncryptsUptoRow : OpenClaim := { program := "ytnaidfcehmdmcaa", sum := "43fc18842afac9e8b927b4d953df302c00a2b16c26b01e2d1757d12239d6501f", func := "saltus/saltuslaw06.AesEncrypts", spec := "aesEncrypts", unfollowed := true, recurses := true, apart := false, narrowed := true }
def AesEncryptsUptoSaid : Prop := aesEncryptsUptoRow.holds Try.pinned (OpenSpec.upto aesEncryptsSpec)

/-- 'saltuslaw06.AesApart', WHERE WHAT IT READS IS OF BULK AT MOST 1048576: true; the input reads as it did. -/
def aesApartUptoRow : OpenClaim := { program := "ytnaidfcehmdmcaa", sum := "43fc18842afac9e8b927b4d953df302c00a2b16c26b01e2d1757d12239d6501f", func := "saltus/saltuslaw06.AesApart", spec := "aesApart", unfollowed := true, recurses := true, apart := false, narrowed := true }
def AesApartUptoSaid : Prop := aesApartUptoRow.holds Try.pinned (OpenSpec.upto aesApartSpec)

/-- 'saltuslaw10.TrustSlots', WHERE WHAT IT READS IS OF BULK AT MOST 1048576: true; the input reads as it did. -/
def trustSlotsUptoRow : OpenClaim := { program := "ytnaidfcehmdmcaa", sum := "43fc18842afac9e8b927b4d953df302c00a2b16c26b01e2d1757d12239d6501f", func := "saltus/saltuslaw10.TrustSlots", spec := "trustSlots", unfollowed := true, recurses := true, apart := false, narrowed := true }
def TrustSlotsUptoSaid : Prop := trustSlotsUptoRow.holds Try.pinned (OpenSpec.upto trustSlotsSpec)

end Rows
end Go.Proofs.Ytnaidfcehmdmcaa
