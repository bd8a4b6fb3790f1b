/-
  DERIVED. GIVEN WITH THE SEED: THE CARDS: each row of YtolbhliepkcihaaGreatDoorRows.lean that lists a variable, with what it lists TIED to the program's text (the seventh form; the later family's looks); each row that meets fmt, with fmt's text TOLD by the authors' own Lean function (tested against real Go, not proved from fmt's source: count such statements apart). THE CARD IS WHAT COUNTS. Prove the row's statement (the work); the ties are given (YtolbhliepkcihaaGreatDoorTie.lean); close each card by the builder's one call (the guide's Derived/Test/ToyasCard.lean, 'card_holds'). Laid BY PROGRAM, IN A SANDBOX (cutbox-door.mjs). By AI agents, Wed Nov 11 2026. No macro, syntax, notation, axiom, sorry.
-/
import Derived.Test.YtolbhliepkcihaaGreatDoorRows
import GoSem.ClaimSeven
namespace Go.Proofs.YtolbhliepkcihaaGreatDoor
namespace Rows

/-- THE TIED CARD OF 'saltuslaw18.ProofProves'. -/
def proofProvesCard : Claim7 := { stood := { row := proofProvesRow, standIns := [], harness := (true, "cadcaea7083b5f5a8cd8832e2dd23dfcfcd2985b771edaaf9b958ec3c3a1f771"), looks := false }, kinds := [], alts := [], laidByText := true, laidKinds := [.data], laidTests := true, laidLooks := .later }
def ProofProvesCardSaid : Prop := Claim7.holds Tryz.pinned (.plain (OpenSpec.ofChange proofProvesSpec)) proofProvesCard

/-- THE SECOND FORM's CARD OF 'saltuslaw18.ProofProves'. -/
def proofProvesUptoCard : Claim7 := { stood := { row := proofProvesUptoRow, standIns := [], harness := (true, "cadcaea7083b5f5a8cd8832e2dd23dfcfcd2985b771edaaf9b958ec3c3a1f771"), looks := false }, kinds := [], alts := [], laidByText := true, laidKinds := [.data], laidTests := true, laidLooks := .later }
def ProofProvesUptoCardSaid : Prop := Claim7.holds Tryz.pinned (.plain (OpenSpec.upto proofProvesSpec)) proofProvesUptoCard
end Rows
end Go.Proofs.YtolbhliepkcihaaGreatDoor
