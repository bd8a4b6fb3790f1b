/-
  No cell of these rows narrows 'for every input' (looked for: loops, veiled, ifaces, maps, wideKeys, modest, calm, conditions, laid).
  DERIVED. THE GIVEN ROWS OF THIS SEAT. 15 by the template 'for every input the law returns true; each argument reads behind the call as it read before'; 0 by the template 'total and deterministic' (their statements: YtolbhliepkcihaaTotals.lean).
  GIVEN WITH THE SEED: the statements are not yours to turn. If you find one false, say at which input.
  Laid BY PROGRAM, IN A SANDBOX (cutbox-rows.mjs): the forced cells as the released guide's own fill.sh prints them over the translation 699a722efad42f31… (all of the seat's roots in one cut). By AI agents, Wed Nov 11 2026. No macro, syntax, notation, axiom, sorry.
-/
import Derived.Test.YtolbhliepkcihaaChecked
import GoSem.Claim
import GoSem.ClaimJoined
import GoSem.ClaimMapViews
import Derived.JoinedTies
import Derived.KernelRfl
namespace Go.Proofs.Ytolbhliepkcihaa
/- THE CELL 'sum', in the pinned program and in every row, IS THE sha256 OF THE DUMP (.gsa) THAT YtolbhliepkcihaaProg.lean LOADS. Nothing in Lean hashes anything: it is a label: what it is worth is what the hold of that sum in a sandbox is worth. -/
noncomputable def Try.pinned : Pinned := { name := "ytolbhliepkcihaa", sum := "699a722efad42f31dc0b6ae372a722fe42b9e9d95f2ba71efb6734586484380a", checked := Try.checked }
namespace Rows
def none {H : Type} : Left H := { results := [], args := [] }

/-- 'saltuslaw03.ShaNumbers': WHATEVER THE INPUT: true; the input reads as it did. -/
def shaNumbersSpec : ChangeSpec := { name := "shaNumbers", fn := fun _ => fun
  | [d] => { results := [.lit (.bool true)], args := [d] }
  | _ => none }
def shaNumbersRow : OpenClaim := { program := "ytolbhliepkcihaa", sum := "699a722efad42f31dc0b6ae372a722fe42b9e9d95f2ba71efb6734586484380a", func := "saltus/saltuslaw03.ShaNumbers", spec := "shaNumbers", inPlace := ["math/bits.Add64", "internal/abi.NoEscape", "internal/bytealg.MakeNoZero"], unfollowed := true, recurses := true, apart := false }
def ShaNumbersSaid : Prop := shaNumbersRow.holds Try.pinned (OpenSpec.ofChange shaNumbersSpec)

/-- ITS FALSE NEIGHBOUR: 'it returns false'. Refute it at one input. -/
def shaNumbersWrong : ChangeSpec := { name := "shaNumbers", fn := fun _ => fun
  | [d] => { results := [.lit (.bool false)], args := [d] }
  | _ => none }
def ShaNumbersWrongFalsely : Prop := shaNumbersRow.holds Try.pinned (OpenSpec.ofChange shaNumbersWrong)

/-- 'saltuslaw03.ShaSums': WHATEVER THE INPUT: true; the input reads as it did. -/
def shaSumsSpec : ChangeSpec := { name := "shaSums", fn := fun _ => fun
  | [d] => { results := [.lit (.bool true)], args := [d] }
  | _ => none }
def shaSumsRow : OpenClaim := { program := "ytolbhliepkcihaa", sum := "699a722efad42f31dc0b6ae372a722fe42b9e9d95f2ba71efb6734586484380a", func := "saltus/saltuslaw03.ShaSums", spec := "shaSums", inPlace := ["math/bits.Add64", "internal/abi.NoEscape", "internal/bytealg.MakeNoZero"], unfollowed := true, recurses := true, apart := false }
def ShaSumsSaid : Prop := shaSumsRow.holds Try.pinned (OpenSpec.ofChange shaSumsSpec)

/-- ITS FALSE NEIGHBOUR: 'it returns false'. Refute it at one input. -/
def shaSumsWrong : ChangeSpec := { name := "shaSums", fn := fun _ => fun
  | [d] => { results := [.lit (.bool false)], args := [d] }
  | _ => none }
def ShaSumsWrongFalsely : Prop := shaSumsRow.holds Try.pinned (OpenSpec.ofChange shaSumsWrong)

/-- 'saltuslaw03.ShaPads': WHATEVER THE INPUT: true; the input reads as it did. -/
def shaPadsSpec : ChangeSpec := { name := "shaPads", fn := fun _ => fun
  | [d1, d2] => { results := [.lit (.bool true)], args := [d1, d2] }
  | _ => none }
def shaPadsRow : OpenClaim := { program := "ytolbhliepkcihaa", sum := "699a722efad42f31dc0b6ae372a722fe42b9e9d95f2ba71efb6734586484380a", func := "saltus/saltuslaw03.ShaPads", spec := "shaPads", inPlace := ["internal/abi.NoEscape", "internal/bytealg.MakeNoZero", "math/bits.Add64"], unfollowed := true, recurses := true, apart := false }
def ShaPadsSaid : Prop := shaPadsRow.holds Try.pinned (OpenSpec.ofChange shaPadsSpec)

/-- ITS FALSE NEIGHBOUR: 'it returns false'. Refute it at one input. -/
def shaPadsWrong : ChangeSpec := { name := "shaPads", fn := fun _ => fun
  | [d1, d2] => { results := [.lit (.bool false)], args := [d1, d2] }
  | _ => none }
def ShaPadsWrongFalsely : Prop := shaPadsRow.holds Try.pinned (OpenSpec.ofChange shaPadsWrong)

/-- 'saltuslaw03.ShaMixes': WHATEVER THE INPUT: true; the input reads as it did. -/
def shaMixesSpec : ChangeSpec := { name := "shaMixes", fn := fun _ => fun
  | [d1, d2] => { results := [.lit (.bool true)], args := [d1, d2] }
  | _ => none }
def shaMixesRow : OpenClaim := { program := "ytolbhliepkcihaa", sum := "699a722efad42f31dc0b6ae372a722fe42b9e9d95f2ba71efb6734586484380a", func := "saltus/saltuslaw03.ShaMixes", spec := "shaMixes", inPlace := ["math/bits.Add64", "internal/abi.NoEscape", "internal/bytealg.MakeNoZero"], unfollowed := true, recurses := true, apart := false }
def ShaMixesSaid : Prop := shaMixesRow.holds Try.pinned (OpenSpec.ofChange shaMixesSpec)

/-- ITS FALSE NEIGHBOUR: 'it returns false'. Refute it at one input. -/
def shaMixesWrong : ChangeSpec := { name := "shaMixes", fn := fun _ => fun
  | [d1, d2] => { results := [.lit (.bool false)], args := [d1, d2] }
  | _ => none }
def ShaMixesWrongFalsely : Prop := shaMixesRow.holds Try.pinned (OpenSpec.ofChange shaMixesWrong)

/-- 'saltuslaw03.ShaGoes': WHATEVER THE INPUT: true; the input reads as it did. -/
def shaGoesSpec : ChangeSpec := { name := "shaGoes", fn := fun _ => fun
  | [d] => { results := [.lit (.bool true)], args := [d] }
  | _ => none }
def shaGoesRow : OpenClaim := { program := "ytolbhliepkcihaa", sum := "699a722efad42f31dc0b6ae372a722fe42b9e9d95f2ba71efb6734586484380a", func := "saltus/saltuslaw03.ShaGoes", spec := "shaGoes", inPlace := ["internal/abi.NoEscape", "internal/bytealg.MakeNoZero", "math/bits.Add64"], unfollowed := true, recurses := true, apart := false }
def ShaGoesSaid : Prop := shaGoesRow.holds Try.pinned (OpenSpec.ofChange shaGoesSpec)

/-- ITS FALSE NEIGHBOUR: 'it returns false'. Refute it at one input. -/
def shaGoesWrong : ChangeSpec := { name := "shaGoes", fn := fun _ => fun
  | [d] => { results := [.lit (.bool false)], args := [d] }
  | _ => none }
def ShaGoesWrongFalsely : Prop := shaGoesRow.holds Try.pinned (OpenSpec.ofChange shaGoesWrong)

/-- 'saltuslaw04.MacTags': WHATEVER THE INPUT: true; the input reads as it did. -/
def macTagsSpec : ChangeSpec := { name := "macTags", fn := fun _ => fun
  | [d1, d2, d3] => { results := [.lit (.bool true)], args := [d1, d2, d3] }
  | _ => none }
def macTagsRow : OpenClaim := { program := "ytolbhliepkcihaa", sum := "699a722efad42f31dc0b6ae372a722fe42b9e9d95f2ba71efb6734586484380a", func := "saltus/saltuslaw04.MacTags", spec := "macTags", inPlace := ["internal/abi.NoEscape", "internal/bytealg.MakeNoZero", "math/bits.Add64"], unfollowed := true, recurses := true, apart := false }
def MacTagsSaid : Prop := macTagsRow.holds Try.pinned (OpenSpec.ofChange macTagsSpec)

/-- ITS FALSE NEIGHBOUR: 'it returns false'. Refute it at one input. -/
def macTagsWrong : ChangeSpec := { name := "macTags", fn := fun _ => fun
  | [d1, d2, d3] => { results := [.lit (.bool false)], args := [d1, d2, d3] }
  | _ => none }
def MacTagsWrongFalsely : Prop := macTagsRow.holds Try.pinned (OpenSpec.ofChange macTagsWrong)

/-- 'saltuslaw04.MacChains': WHATEVER THE INPUT: true; the input reads as it did. -/
def macChainsSpec : ChangeSpec := { name := "macChains", fn := fun _ => fun
  | [d1, d2, d3] => { results := [.lit (.bool true)], args := [d1, d2, d3] }
  | _ => none }
def macChainsRow : OpenClaim := { program := "ytolbhliepkcihaa", sum := "699a722efad42f31dc0b6ae372a722fe42b9e9d95f2ba71efb6734586484380a", func := "saltus/saltuslaw04.MacChains", spec := "macChains", inPlace := ["internal/abi.NoEscape", "internal/bytealg.MakeNoZero", "math/bits.Add64"], unfollowed := true, recurses := true, apart := false }
def MacChainsSaid : Prop := macChainsRow.holds Try.pinned (OpenSpec.ofChange macChainsSpec)

/-- ITS FALSE NEIGHBOUR: 'it returns false'. Refute it at one input. -/
def macChainsWrong : ChangeSpec := { name := "macChains", fn := fun _ => fun
  | [d1, d2, d3] => { results := [.lit (.bool false)], args := [d1, d2, d3] }
  | _ => none }
def MacChainsWrongFalsely : Prop := macChainsRow.holds Try.pinned (OpenSpec.ofChange macChainsWrong)

/-- 'saltuslaw04.MacFits': WHATEVER THE INPUT: true; the input reads as it did. -/
def macFitsSpec : ChangeSpec := { name := "macFits", fn := fun _ => fun
  | [d1, d2] => { results := [.lit (.bool true)], args := [d1, d2] }
  | _ => none }
def macFitsRow : OpenClaim := { program := "ytolbhliepkcihaa", sum := "699a722efad42f31dc0b6ae372a722fe42b9e9d95f2ba71efb6734586484380a", func := "saltus/saltuslaw04.MacFits", spec := "macFits", inPlace := ["math/bits.Add64", "internal/abi.NoEscape", "internal/bytealg.MakeNoZero"], unfollowed := true, recurses := true, apart := false }
def MacFitsSaid : Prop := macFitsRow.holds Try.pinned (OpenSpec.ofChange macFitsSpec)

/-- ITS FALSE NEIGHBOUR: 'it returns false'. Refute it at one input. -/
def macFitsWrong : ChangeSpec := { name := "macFits", fn := fun _ => fun
  | [d1, d2] => { results := [.lit (.bool false)], args := [d1, d2] }
  | _ => none }
def MacFitsWrongFalsely : Prop := macFitsRow.holds Try.pinned (OpenSpec.ofChange macFitsWrong)

/-- 'saltuslaw04.MacGoes': WHATEVER THE INPUT: true; the input reads as it did. -/
def macGoesSpec : ChangeSpec := { name := "macGoes", fn := fun _ => fun
  | [d1, d2, d3, d4] => { results := [.lit (.bool true)], args := [d1, d2, d3, d4] }
  | _ => none }
def macGoesRow : OpenClaim := { program := "ytolbhliepkcihaa", sum := "699a722efad42f31dc0b6ae372a722fe42b9e9d95f2ba71efb6734586484380a", func := "saltus/saltuslaw04.MacGoes", spec := "macGoes", inPlace := ["math/bits.Add64", "internal/abi.NoEscape", "internal/bytealg.MakeNoZero"], unfollowed := true, recurses := true, apart := false }
def MacGoesSaid : Prop := macGoesRow.holds Try.pinned (OpenSpec.ofChange macGoesSpec)

/-- ITS FALSE NEIGHBOUR: 'it returns false'. Refute it at one input. -/
def macGoesWrong : ChangeSpec := { name := "macGoes", fn := fun _ => fun
  | [d1, d2, d3, d4] => { results := [.lit (.bool false)], args := [d1, d2, d3, d4] }
  | _ => none }
def MacGoesWrongFalsely : Prop := macGoesRow.holds Try.pinned (OpenSpec.ofChange macGoesWrong)

/-- 'saltuslaw10.TrustKeys': WHATEVER THE INPUT: true; the input reads as it did. -/
def trustKeysSpec : ChangeSpec := { name := "trustKeys", fn := fun _ => fun
  | [d1, d2, d3] => { results := [.lit (.bool true)], args := [d1, d2, d3] }
  | _ => none }
def trustKeysRow : OpenClaim := { program := "ytolbhliepkcihaa", sum := "699a722efad42f31dc0b6ae372a722fe42b9e9d95f2ba71efb6734586484380a", func := "saltus/saltuslaw10.TrustKeys", spec := "trustKeys", inPlace := ["math/bits.Add64", "internal/abi.NoEscape", "internal/bytealg.MakeNoZero"], unfollowed := true, recurses := true, apart := false }
def TrustKeysSaid : Prop := trustKeysRow.holds Try.pinned (OpenSpec.ofChange trustKeysSpec)

/-- ITS FALSE NEIGHBOUR: 'it returns false'. Refute it at one input. -/
def trustKeysWrong : ChangeSpec := { name := "trustKeys", fn := fun _ => fun
  | [d1, d2, d3] => { results := [.lit (.bool false)], args := [d1, d2, d3] }
  | _ => none }
def TrustKeysWrongFalsely : Prop := trustKeysRow.holds Try.pinned (OpenSpec.ofChange trustKeysWrong)

/-- 'saltuslaw10.TrustGrows': WHATEVER THE INPUT: true; the input reads as it did. -/
def trustGrowsSpec : ChangeSpec := { name := "trustGrows", fn := fun _ => fun
  | [d1, d2, d3] => { results := [.lit (.bool true)], args := [d1, d2, d3] }
  | _ => none }
def trustGrowsRow : OpenClaim := { program := "ytolbhliepkcihaa", sum := "699a722efad42f31dc0b6ae372a722fe42b9e9d95f2ba71efb6734586484380a", func := "saltus/saltuslaw10.TrustGrows", spec := "trustGrows", inPlace := ["math/bits.Add64", "internal/abi.NoEscape", "internal/bytealg.MakeNoZero"], unfollowed := true, recurses := true, apart := false }
def TrustGrowsSaid : Prop := trustGrowsRow.holds Try.pinned (OpenSpec.ofChange trustGrowsSpec)

/-- ITS FALSE NEIGHBOUR: 'it returns false'. Refute it at one input. -/
def trustGrowsWrong : ChangeSpec := { name := "trustGrows", fn := fun _ => fun
  | [d1, d2, d3] => { results := [.lit (.bool false)], args := [d1, d2, d3] }
  | _ => none }
def TrustGrowsWrongFalsely : Prop := trustGrowsRow.holds Try.pinned (OpenSpec.ofChange trustGrowsWrong)

/-- 'saltuslaw13.JournalWrites': WHATEVER THE INPUT: true; the input reads as it did. -/
def journalWritesSpec : ChangeSpec := { name := "journalWrites", fn := fun _ => fun
  | [d1, d2, d3, d4] => { results := [.lit (.bool true)], args := [d1, d2, d3, d4] }
  | _ => none }
def journalWritesRow : OpenClaim := { program := "ytolbhliepkcihaa", sum := "699a722efad42f31dc0b6ae372a722fe42b9e9d95f2ba71efb6734586484380a", func := "saltus/saltuslaw13.JournalWrites", spec := "journalWrites", inPlace := ["math/bits.Add64", "internal/abi.NoEscape", "internal/bytealg.MakeNoZero"], unfollowed := true, recurses := true, apart := false }
def JournalWritesSaid : Prop := journalWritesRow.holds Try.pinned (OpenSpec.ofChange journalWritesSpec)

/-- ITS FALSE NEIGHBOUR: 'it returns false'. Refute it at one input. -/
def journalWritesWrong : ChangeSpec := { name := "journalWrites", fn := fun _ => fun
  | [d1, d2, d3, d4] => { results := [.lit (.bool false)], args := [d1, d2, d3, d4] }
  | _ => none }
def JournalWritesWrongFalsely : Prop := journalWritesRow.holds Try.pinned (OpenSpec.ofChange journalWritesWrong)

/-- 'saltuslaw13.JournalScans': WHATEVER THE INPUT: true; the input reads as it did. -/
def journalScansSpec : ChangeSpec := { name := "journalScans", fn := fun _ => fun
  | [d1, d2, d3] => { results := [.lit (.bool true)], args := [d1, d2, d3] }
  | _ => none }
def journalScansRow : OpenClaim := { program := "ytolbhliepkcihaa", sum := "699a722efad42f31dc0b6ae372a722fe42b9e9d95f2ba71efb6734586484380a", func := "saltus/saltuslaw13.JournalScans", spec := "journalScans", inPlace := ["math/bits.Add64", "internal/abi.NoEscape", "internal/bytealg.MakeNoZero"], unfollowed := true, recurses := true, apart := false }
def JournalScansSaid : Prop := journalScansRow.holds Try.pinned (OpenSpec.ofChange journalScansSpec)

/-- ITS FALSE NEIGHBOUR: 'it returns false'. Refute it at one input. -/
def journalScansWrong : ChangeSpec := { name := "journalScans", fn := fun _ => fun
  | [d1, d2, d3] => { results := [.lit (.bool false)], args := [d1, d2, d3] }
  | _ => none }
def JournalScansWrongFalsely : Prop := journalScansRow.holds Try.pinned (OpenSpec.ofChange journalScansWrong)

/-- 'saltuslaw13.JournalBack': WHATEVER THE INPUT: true; the input reads as it did. -/
def journalBackSpec : ChangeSpec := { name := "journalBack", fn := fun _ => fun
  | [d1, d2, d3, d4] => { results := [.lit (.bool true)], args := [d1, d2, d3, d4] }
  | _ => none }
def journalBackRow : OpenClaim := { program := "ytolbhliepkcihaa", sum := "699a722efad42f31dc0b6ae372a722fe42b9e9d95f2ba71efb6734586484380a", func := "saltus/saltuslaw13.JournalBack", spec := "journalBack", inPlace := ["math/bits.Add64", "internal/abi.NoEscape", "internal/bytealg.MakeNoZero"], unfollowed := true, recurses := true, apart := false }
def JournalBackSaid : Prop := journalBackRow.holds Try.pinned (OpenSpec.ofChange journalBackSpec)

/-- ITS FALSE NEIGHBOUR: 'it returns false'. Refute it at one input. -/
def journalBackWrong : ChangeSpec := { name := "journalBack", fn := fun _ => fun
  | [d1, d2, d3, d4] => { results := [.lit (.bool false)], args := [d1, d2, d3, d4] }
  | _ => none }
def JournalBackWrongFalsely : Prop := journalBackRow.holds Try.pinned (OpenSpec.ofChange journalBackWrong)

/-- 'saltuslaw13.JournalGroups': WHATEVER THE INPUT: true; the input reads as it did. -/
def journalGroupsSpec : ChangeSpec := { name := "journalGroups", fn := fun _ => fun
  | [d] => { results := [.lit (.bool true)], args := [d] }
  | _ => none }
def journalGroupsRow : OpenClaim := { program := "ytolbhliepkcihaa", sum := "699a722efad42f31dc0b6ae372a722fe42b9e9d95f2ba71efb6734586484380a", func := "saltus/saltuslaw13.JournalGroups", spec := "journalGroups", inPlace := ["math/bits.Add64", "internal/abi.NoEscape", "internal/bytealg.MakeNoZero"], unfollowed := true, recurses := true, apart := false }
def JournalGroupsSaid : Prop := journalGroupsRow.holds Try.pinned (OpenSpec.ofChange journalGroupsSpec)

/-- ITS FALSE NEIGHBOUR: 'it returns false'. Refute it at one input. -/
def journalGroupsWrong : ChangeSpec := { name := "journalGroups", fn := fun _ => fun
  | [d] => { results := [.lit (.bool false)], args := [d] }
  | _ => none }
def JournalGroupsWrongFalsely : Prop := journalGroupsRow.holds Try.pinned (OpenSpec.ofChange journalGroupsWrong)

/- THE SECOND FORM. 'bulk': how many values and letters a reading holds, each counted each time it is reached (what is shared counts as often as it is met; a slice's spare places count too). A statement '..UptoSaid' is the law's where the arguments, and the package variables that the reading takes, are together of bulk at most 1048576: NARROWER than '..Said'. Prove '..Said' where nothing that the law and all that it calls make is longer than what came in: it says more and counts as full. Else prove '..UptoSaid'. A law counts once. -/
mutual
def uptoBulk {H : Type} : DataW H → Nat
  | .lit (.string bytes) => bytes.length + 1
  | .lit _ => 1
  | .nil => 1
  | .ptr d => uptoBulk d + 1
  | .slice elems spare => uptoBulkAll elems + uptoBulkAll spare + 1
  | .agg parts => uptoBulkAll parts + 1
  | .iface _ d => uptoBulk d + 1
  | .map entries => uptoBulkEntries entries + 1
  | .held _ => 1
def uptoBulkAll {H : Type} : List (DataW H) → Nat
  | [] => 0
  | d :: r => uptoBulk d + uptoBulkAll r
def uptoBulkEntries {H : Type} : List (Lit × DataW H) → Nat
  | [] => 0
  | x :: r => uptoBulkEntry x + uptoBulkEntries r
def uptoBulkEntry {H : Type} : Lit × DataW H → Nat
  | (.string bytes, d) => bytes.length + uptoBulk d + 1
  | (_, d) => uptoBulk d + 1
 end
def uptoSmall : (H : Type) → List (DataW H) → Bool := fun _ ds => decide (uptoBulkAll ds ≤ 1048576)
def OpenSpec.upto (s : _root_.Go.ChangeSpec) : _root_.Go.OpenSpec := { _root_.Go.OpenSpec.ofChange s with cond := some uptoSmall }

/-- 'saltuslaw03.ShaNumbers', WHERE WHAT IT READS IS OF BULK AT MOST 1048576: true; the input reads as it did. -/
def shaNumbersUptoRow : OpenClaim := { program := "ytolbhliepkcihaa", sum := "699a722efad42f31dc0b6ae372a722fe42b9e9d95f2ba71efb6734586484380a", func := "saltus/saltuslaw03.ShaNumbers", spec := "shaNumbers", inPlace := ["math/bits.Add64", "internal/abi.NoEscape", "internal/bytealg.MakeNoZero"], unfollowed := true, recurses := true, apart := false, narrowed := true }
def ShaNumbersUptoSaid : Prop := shaNumbersUptoRow.holds Try.pinned (OpenSpec.upto shaNumbersSpec)

/-- 'saltuslaw03.ShaSums', WHERE WHAT IT READS IS OF BULK AT MOST 1048576: true; the input reads as it did. -/
def shaSumsUptoRow : OpenClaim := { program := "ytolbhliepkcihaa", sum := "699a722efad42f31dc0b6ae372a722fe42b9e9d95f2ba71efb6734586484380a", func := "saltus/saltuslaw03.ShaSums", spec := "shaSums", inPlace := ["math/bits.Add64", "internal/abi.NoEscape", "internal/bytealg.MakeNoZero"], unfollowed := true, recurses := true, apart := false, narrowed := true }
def ShaSumsUptoSaid : Prop := shaSumsUptoRow.holds Try.pinned (OpenSpec.upto shaSumsSpec)

/-- 'saltuslaw03.ShaPads', WHERE WHAT IT READS IS OF BULK AT MOST 1048576: true; the input reads as it did. -/
def shaPadsUptoRow : OpenClaim := { program := "ytolbhliepkcihaa", sum := "699a722efad42f31dc0b6ae372a722fe42b9e9d95f2ba71efb6734586484380a", func := "saltus/saltuslaw03.ShaPads", spec := "shaPads", inPlace := ["internal/abi.NoEscape", "internal/bytealg.MakeNoZero", "math/bits.Add64"], unfollowed := true, recurses := true, apart := false, narrowed := true }
def ShaPadsUptoSaid : Prop := shaPadsUptoRow.holds Try.pinned (OpenSpec.upto shaPadsSpec)

/-- 'saltuslaw03.ShaMixes', WHERE WHAT IT READS IS OF BULK AT MOST 1048576: true; the input reads as it did. -/
def shaMixesUptoRow : OpenClaim := { program := "ytolbhliepkcihaa", sum := "699a722efad42f31dc0b6ae372a722fe42b9e9d95f2ba71efb6734586484380a", func := "saltus/saltuslaw03.ShaMixes", spec := "shaMixes", inPlace := ["math/bits.Add64", "internal/abi.NoEscape", "internal/bytealg.MakeNoZero"], unfollowed := true, recurses := true, apart := false, narrowed := true }
def ShaMixesUptoSaid : Prop := shaMixesUptoRow.holds Try.pinned (OpenSpec.upto shaMixesSpec)

/-- 'saltuslaw03.ShaGoes', WHERE WHAT IT READS IS OF BULK AT MOST 1048576: true; the input reads as it did. -/
def shaGoesUptoRow : OpenClaim := { program := "ytolbhliepkcihaa", sum := "699a722efad42f31dc0b6ae372a722fe42b9e9d95f2ba71efb6734586484380a", func := "saltus/saltuslaw03.ShaGoes", spec := "shaGoes", inPlace := ["internal/abi.NoEscape", "internal/bytealg.MakeNoZero", "math/bits.Add64"], unfollowed := true, recurses := true, apart := false, narrowed := true }
def ShaGoesUptoSaid : Prop := shaGoesUptoRow.holds Try.pinned (OpenSpec.upto shaGoesSpec)

/-- 'saltuslaw04.MacTags', WHERE WHAT IT READS IS OF BULK AT MOST 1048576: true; the input reads as it did. -/
def macTagsUptoRow : OpenClaim := { program := "ytolbhliepkcihaa", sum := "699a722efad42f31dc0b6ae372a722fe42b9e9d95f2ba71efb6734586484380a", func := "saltus/saltuslaw04.MacTags", spec := "macTags", inPlace := ["internal/abi.NoEscape", "internal/bytealg.MakeNoZero", "math/bits.Add64"], unfollowed := true, recurses := true, apart := false, narrowed := true }
def MacTagsUptoSaid : Prop := macTagsUptoRow.holds Try.pinned (OpenSpec.upto macTagsSpec)

/-- 'saltuslaw04.MacChains', WHERE WHAT IT READS IS OF BULK AT MOST 1048576: true; the input reads as it did. -/
def macChainsUptoRow : OpenClaim := { program := "ytolbhliepkcihaa", sum := "699a722efad42f31dc0b6ae372a722fe42b9e9d95f2ba71efb6734586484380a", func := "saltus/saltuslaw04.MacChains", spec := "macChains", inPlace := ["internal/abi.NoEscape", "internal/bytealg.MakeNoZero", "math/bits.Add64"], unfollowed := true, recurses := true, apart := false, narrowed := true }
def MacChainsUptoSaid : Prop := macChainsUptoRow.holds Try.pinned (OpenSpec.upto macChainsSpec)

/-- 'saltuslaw04.MacFits', WHERE WHAT IT READS IS OF BULK AT MOST 1048576: true; the input reads as it did. -/
def macFitsUptoRow : OpenClaim := { program := "ytolbhliepkcihaa", sum := "699a722efad42f31dc0b6ae372a722fe42b9e9d95f2ba71efb6734586484380a", func := "saltus/saltuslaw04.MacFits", spec := "macFits", inPlace := ["math/bits.Add64", "internal/abi.NoEscape", "internal/bytealg.MakeNoZero"], unfollowed := true, recurses := true, apart := false, narrowed := true }
def MacFitsUptoSaid : Prop := macFitsUptoRow.holds Try.pinned (OpenSpec.upto macFitsSpec)

/-- 'saltuslaw04.MacGoes', WHERE WHAT IT READS IS OF BULK AT MOST 1048576: true; the input reads as it did. -/
def macGoesUptoRow : OpenClaim := { program := "ytolbhliepkcihaa", sum := "699a722efad42f31dc0b6ae372a722fe42b9e9d95f2ba71efb6734586484380a", func := "saltus/saltuslaw04.MacGoes", spec := "macGoes", inPlace := ["math/bits.Add64", "internal/abi.NoEscape", "internal/bytealg.MakeNoZero"], unfollowed := true, recurses := true, apart := false, narrowed := true }
def MacGoesUptoSaid : Prop := macGoesUptoRow.holds Try.pinned (OpenSpec.upto macGoesSpec)

/-- 'saltuslaw10.TrustKeys', WHERE WHAT IT READS IS OF BULK AT MOST 1048576: true; the input reads as it did. -/
def trustKeysUptoRow : OpenClaim := { program := "ytolbhliepkcihaa", sum := "699a722efad42f31dc0b6ae372a722fe42b9e9d95f2ba71efb6734586484380a", func := "saltus/saltuslaw10.TrustKeys", spec := "trustKeys", inPlace := ["math/bits.Add64", "internal/abi.NoEscape", "internal/bytealg.MakeNoZero"], unfollowed := true, recurses := true, apart := false, narrowed := true }
def TrustKeysUptoSaid : Prop := trustKeysUptoRow.holds Try.pinned (OpenSpec.upto trustKeysSpec)

/-- 'saltuslaw10.TrustGrows', WHERE WHAT IT READS IS OF BULK AT MOST 1048576: true; the input reads as it did. -/
def trustGrowsUptoRow : OpenClaim := { program := "ytolbhliepkcihaa", sum := "699a722efad42f31dc0b6ae372a722fe42b9e9d95f2ba71efb6734586484380a", func := "saltus/saltuslaw10.TrustGrows", spec := "trustGrows", inPlace := ["math/bits.Add64", "internal/abi.NoEscape", "internal/bytealg.MakeNoZero"], unfollowed := true, recurses := true, apart := false, narrowed := true }
def TrustGrowsUptoSaid : Prop := trustGrowsUptoRow.holds Try.pinned (OpenSpec.upto trustGrowsSpec)

/-- 'saltuslaw13.JournalWrites', WHERE WHAT IT READS IS OF BULK AT MOST 1048576: true; the input reads as it did. -/
def journalWritesUptoRow : OpenClaim := { program := "ytolbhliepkcihaa", sum := "699a722efad42f31dc0b6ae372a722fe42b9e9d95f2ba71efb6734586484380a", func := "saltus/saltuslaw13.JournalWrites", spec := "journalWrites", inPlace := ["math/bits.Add64", "internal/abi.NoEscape", "internal/bytealg.MakeNoZero"], unfollowed := true, recurses := true, apart := false, narrowed := true }
def JournalWritesUptoSaid : Prop := journalWritesUptoRow.holds Try.pinned (OpenSpec.upto journalWritesSpec)

/-- 'saltuslaw13.JournalScans', WHERE WHAT IT READS IS OF BULK AT MOST 1048576: true; the input reads as it did. -/
def journalScansUptoRow : OpenClaim := { program := "ytolbhliepkcihaa", sum := "699a722efad42f31dc0b6ae372a722fe42b9e9d95f2ba71efb6734586484380a", func := "saltus/saltuslaw13.JournalScans", spec := "journalScans", inPlace := ["math/bits.Add64", "internal/abi.NoEscape", "internal/bytealg.MakeNoZero"], unfollowed := true, recurses := true, apart := false, narrowed := true }
def JournalScansUptoSaid : Prop := journalScansUptoRow.holds Try.pinned (OpenSpec.upto journalScansSpec)

/-- 'saltuslaw13.JournalBack', WHERE WHAT IT READS IS OF BULK AT MOST 1048576: true; the input reads as it did. -/
def journalBackUptoRow : OpenClaim := { program := "ytolbhliepkcihaa", sum := "699a722efad42f31dc0b6ae372a722fe42b9e9d95f2ba71efb6734586484380a", func := "saltus/saltuslaw13.JournalBack", spec := "journalBack", inPlace := ["math/bits.Add64", "internal/abi.NoEscape", "internal/bytealg.MakeNoZero"], unfollowed := true, recurses := true, apart := false, narrowed := true }
def JournalBackUptoSaid : Prop := journalBackUptoRow.holds Try.pinned (OpenSpec.upto journalBackSpec)

/-- 'saltuslaw13.JournalGroups', WHERE WHAT IT READS IS OF BULK AT MOST 1048576: true; the input reads as it did. -/
def journalGroupsUptoRow : OpenClaim := { program := "ytolbhliepkcihaa", sum := "699a722efad42f31dc0b6ae372a722fe42b9e9d95f2ba71efb6734586484380a", func := "saltus/saltuslaw13.JournalGroups", spec := "journalGroups", inPlace := ["math/bits.Add64", "internal/abi.NoEscape", "internal/bytealg.MakeNoZero"], unfollowed := true, recurses := true, apart := false, narrowed := true }
def JournalGroupsUptoSaid : Prop := journalGroupsUptoRow.holds Try.pinned (OpenSpec.upto journalGroupsSpec)

end Rows
end Go.Proofs.Ytolbhliepkcihaa
