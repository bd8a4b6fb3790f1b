/-
  DERIVED. GIVEN WITH THE SEED: THE CARDS: each row of YtolbhliepkcihaaDoorRows.lean that lists a variable, with what it lists TIED to the program's text (the seventh form; the later family's looks); each row that meets fmt, with fmt's text TOLD by the authors' own Lean function (tested against real Go, not proved from fmt's source: count such statements apart). THE CARD IS WHAT COUNTS. Prove the row's statement (the work); the ties are given (YtolbhliepkcihaaDoorTie.lean); close each card by the builder's one call (the guide's Derived/Test/ToyasCard.lean, 'card_holds'). Laid BY PROGRAM, IN A SANDBOX (cutbox-door.mjs). By AI agents, Wed Nov 11 2026. No macro, syntax, notation, axiom, sorry.
-/
import Derived.Test.YtolbhliepkcihaaDoorRows
import GoSem.ClaimSeven
namespace Go.Proofs.YtolbhliepkcihaaDoor
namespace Rows

/-- THE TIED CARD OF 'saltuslaw15.TowerHeights'. -/
def towerHeightsCard : Claim7 := { stood := { row := towerHeightsRow, standIns := [], harness := (true, "cb13fbec1699a0a65615e28e86c07974295fc36abbcd6091cbd0d6dcc0ed141d"), looks := false }, kinds := [], alts := [], laidByText := true, laidKinds := [.data], laidTests := true, laidLooks := .later }
def TowerHeightsCardSaid : Prop := Claim7.holds Tryd.pinned (.plain (OpenSpec.ofChange towerHeightsSpec)) towerHeightsCard

/-- THE TIED CARD OF 'saltuslaw15.TowerAbove'. -/
def towerAboveCard : Claim7 := { stood := { row := towerAboveRow, standIns := [], harness := (true, "cb13fbec1699a0a65615e28e86c07974295fc36abbcd6091cbd0d6dcc0ed141d"), looks := false }, kinds := [], alts := [], laidByText := true, laidKinds := [.data], laidTests := true, laidLooks := .later }
def TowerAboveCardSaid : Prop := Claim7.holds Tryd.pinned (.plain (OpenSpec.ofChange towerAboveSpec)) towerAboveCard

/-- THE TIED CARD OF 'saltuslaw15.TowerFalls'. -/
def towerFallsCard : Claim7 := { stood := { row := towerFallsRow, standIns := [], harness := (true, "cb13fbec1699a0a65615e28e86c07974295fc36abbcd6091cbd0d6dcc0ed141d"), looks := false }, kinds := [], alts := [], laidByText := true, laidKinds := [.data], laidTests := true, laidLooks := .later }
def TowerFallsCardSaid : Prop := Claim7.holds Tryd.pinned (.plain (OpenSpec.ofChange towerFallsSpec)) towerFallsCard

/-- THE TIED CARD OF 'saltuslaw16.SkipFinds'. -/
def skipFindsCard : Claim7 := { stood := { row := skipFindsRow, standIns := [], harness := (true, "cb13fbec1699a0a65615e28e86c07974295fc36abbcd6091cbd0d6dcc0ed141d"), looks := false }, kinds := [], alts := [], laidByText := true, laidKinds := [.data], laidTests := true, laidLooks := .later }
def SkipFindsCardSaid : Prop := Claim7.holds Tryd.pinned (.plain (OpenSpec.ofChange skipFindsSpec)) skipFindsCard

/-- THE TIED CARD OF 'saltuslaw16.SkipHops'. -/
def skipHopsCard : Claim7 := { stood := { row := skipHopsRow, standIns := [], harness := (true, "cb13fbec1699a0a65615e28e86c07974295fc36abbcd6091cbd0d6dcc0ed141d"), looks := false }, kinds := [], alts := [], laidByText := true, laidKinds := [.data], laidTests := true, laidLooks := .later }
def SkipHopsCardSaid : Prop := Claim7.holds Tryd.pinned (.plain (OpenSpec.ofChange skipHopsSpec)) skipHopsCard

/-- THE TIED CARD OF 'saltuslaw17.LabelRows'. -/
def labelRowsCard : Claim7 := { stood := { row := labelRowsRow, standIns := [], harness := (true, "cb13fbec1699a0a65615e28e86c07974295fc36abbcd6091cbd0d6dcc0ed141d"), looks := false }, kinds := [], alts := [], laidByText := true, laidKinds := [.data], laidTests := true, laidLooks := .later }
def LabelRowsCardSaid : Prop := Claim7.holds Tryd.pinned (.plain (OpenSpec.ofChange labelRowsSpec)) labelRowsCard

/-- THE TIED CARD OF 'saltuslaw16.SkipOrder'. -/
def skipOrderCard : Claim7 := { stood := { row := skipOrderRow, standIns := [], harness := (true, "cb13fbec1699a0a65615e28e86c07974295fc36abbcd6091cbd0d6dcc0ed141d"), looks := false }, kinds := [], alts := [], laidByText := true, laidKinds := [.data], laidTests := true, laidLooks := .later }
def SkipOrderCardSaid : Prop := Claim7.holds Tryd.pinned (.plain (OpenSpec.ofChange skipOrderSpec)) skipOrderCard

/-- THE TIED CARD OF 'saltuslaw17.LabelJoins'. -/
def labelJoinsCard : Claim7 := { stood := { row := labelJoinsRow, standIns := [], harness := (true, "cb13fbec1699a0a65615e28e86c07974295fc36abbcd6091cbd0d6dcc0ed141d"), looks := false }, kinds := [], alts := [], laidByText := true, laidKinds := [.data], laidTests := true, laidLooks := .later }
def LabelJoinsCardSaid : Prop := Claim7.holds Tryd.pinned (.plain (OpenSpec.ofChange labelJoinsSpec)) labelJoinsCard

/-- THE TIED CARD OF 'saltuslaw16.SkipPuts'. -/
def skipPutsCard : Claim7 := { stood := { row := skipPutsRow, standIns := [], harness := (true, "cb13fbec1699a0a65615e28e86c07974295fc36abbcd6091cbd0d6dcc0ed141d"), looks := false }, kinds := [], alts := [], laidByText := true, laidKinds := [.data], laidTests := true, laidLooks := .later }
def SkipPutsCardSaid : Prop := Claim7.holds Tryd.pinned (.plain (OpenSpec.ofChange skipPutsSpec)) skipPutsCard

/-- THE TIED CARD OF 'saltuslaw17.LabelMade'. -/
def labelMadeCard : Claim7 := { stood := { row := labelMadeRow, standIns := [], harness := (true, "cb13fbec1699a0a65615e28e86c07974295fc36abbcd6091cbd0d6dcc0ed141d"), looks := false }, kinds := [], alts := [], laidByText := true, laidKinds := [.data], laidTests := true, laidLooks := .later }
def LabelMadeCardSaid : Prop := Claim7.holds Tryd.pinned (.plain (OpenSpec.ofChange labelMadeSpec)) labelMadeCard

/-- THE TIED CARD OF 'saltuslaw18.ProofChecks'. -/
def proofChecksCard : Claim7 := { stood := { row := proofChecksRow, standIns := [], harness := (true, "cb13fbec1699a0a65615e28e86c07974295fc36abbcd6091cbd0d6dcc0ed141d"), looks := false }, kinds := [], alts := [], laidByText := true, laidKinds := [.data], laidTests := true, laidLooks := .later }
def ProofChecksCardSaid : Prop := Claim7.holds Tryd.pinned (.plain (OpenSpec.ofChange proofChecksSpec)) proofChecksCard

/-- THE TIED CARD OF 'saltuslaw18.ProofShows'. -/
def proofShowsCard : Claim7 := { stood := { row := proofShowsRow, standIns := [], harness := (true, "cb13fbec1699a0a65615e28e86c07974295fc36abbcd6091cbd0d6dcc0ed141d"), looks := false }, kinds := [], alts := [], laidByText := true, laidKinds := [.data], laidTests := true, laidLooks := .later }
def ProofShowsCardSaid : Prop := Claim7.holds Tryd.pinned (.plain (OpenSpec.ofChange proofShowsSpec)) proofShowsCard

/-- THE TIED CARD OF 'saltuslaw18.ProofBinds'. -/
def proofBindsCard : Claim7 := { stood := { row := proofBindsRow, standIns := [], harness := (true, "cb13fbec1699a0a65615e28e86c07974295fc36abbcd6091cbd0d6dcc0ed141d"), looks := false }, kinds := [], alts := [], laidByText := true, laidKinds := [.data], laidTests := true, laidLooks := .later }
def ProofBindsCardSaid : Prop := Claim7.holds Tryd.pinned (.plain (OpenSpec.ofChange proofBindsSpec)) proofBindsCard

/-- THE SECOND FORM's CARD OF 'saltuslaw15.TowerHeights'. -/
def towerHeightsUptoCard : Claim7 := { stood := { row := towerHeightsUptoRow, standIns := [], harness := (true, "cb13fbec1699a0a65615e28e86c07974295fc36abbcd6091cbd0d6dcc0ed141d"), looks := false }, kinds := [], alts := [], laidByText := true, laidKinds := [.data], laidTests := true, laidLooks := .later }
def TowerHeightsUptoCardSaid : Prop := Claim7.holds Tryd.pinned (.plain (OpenSpec.upto towerHeightsSpec)) towerHeightsUptoCard

/-- THE SECOND FORM's CARD OF 'saltuslaw15.TowerAbove'. -/
def towerAboveUptoCard : Claim7 := { stood := { row := towerAboveUptoRow, standIns := [], harness := (true, "cb13fbec1699a0a65615e28e86c07974295fc36abbcd6091cbd0d6dcc0ed141d"), looks := false }, kinds := [], alts := [], laidByText := true, laidKinds := [.data], laidTests := true, laidLooks := .later }
def TowerAboveUptoCardSaid : Prop := Claim7.holds Tryd.pinned (.plain (OpenSpec.upto towerAboveSpec)) towerAboveUptoCard

/-- THE SECOND FORM's CARD OF 'saltuslaw15.TowerFalls'. -/
def towerFallsUptoCard : Claim7 := { stood := { row := towerFallsUptoRow, standIns := [], harness := (true, "cb13fbec1699a0a65615e28e86c07974295fc36abbcd6091cbd0d6dcc0ed141d"), looks := false }, kinds := [], alts := [], laidByText := true, laidKinds := [.data], laidTests := true, laidLooks := .later }
def TowerFallsUptoCardSaid : Prop := Claim7.holds Tryd.pinned (.plain (OpenSpec.upto towerFallsSpec)) towerFallsUptoCard

/-- THE SECOND FORM's CARD OF 'saltuslaw16.SkipFinds'. -/
def skipFindsUptoCard : Claim7 := { stood := { row := skipFindsUptoRow, standIns := [], harness := (true, "cb13fbec1699a0a65615e28e86c07974295fc36abbcd6091cbd0d6dcc0ed141d"), looks := false }, kinds := [], alts := [], laidByText := true, laidKinds := [.data], laidTests := true, laidLooks := .later }
def SkipFindsUptoCardSaid : Prop := Claim7.holds Tryd.pinned (.plain (OpenSpec.upto skipFindsSpec)) skipFindsUptoCard

/-- THE SECOND FORM's CARD OF 'saltuslaw16.SkipHops'. -/
def skipHopsUptoCard : Claim7 := { stood := { row := skipHopsUptoRow, standIns := [], harness := (true, "cb13fbec1699a0a65615e28e86c07974295fc36abbcd6091cbd0d6dcc0ed141d"), looks := false }, kinds := [], alts := [], laidByText := true, laidKinds := [.data], laidTests := true, laidLooks := .later }
def SkipHopsUptoCardSaid : Prop := Claim7.holds Tryd.pinned (.plain (OpenSpec.upto skipHopsSpec)) skipHopsUptoCard

/-- THE SECOND FORM's CARD OF 'saltuslaw17.LabelRows'. -/
def labelRowsUptoCard : Claim7 := { stood := { row := labelRowsUptoRow, standIns := [], harness := (true, "cb13fbec1699a0a65615e28e86c07974295fc36abbcd6091cbd0d6dcc0ed141d"), looks := false }, kinds := [], alts := [], laidByText := true, laidKinds := [.data], laidTests := true, laidLooks := .later }
def LabelRowsUptoCardSaid : Prop := Claim7.holds Tryd.pinned (.plain (OpenSpec.upto labelRowsSpec)) labelRowsUptoCard

/-- THE SECOND FORM's CARD OF 'saltuslaw16.SkipOrder'. -/
def skipOrderUptoCard : Claim7 := { stood := { row := skipOrderUptoRow, standIns := [], harness := (true, "cb13fbec1699a0a65615e28e86c07974295fc36abbcd6091cbd0d6dcc0ed141d"), looks := false }, kinds := [], alts := [], laidByText := true, laidKinds := [.data], laidTests := true, laidLooks := .later }
def SkipOrderUptoCardSaid : Prop := Claim7.holds Tryd.pinned (.plain (OpenSpec.upto skipOrderSpec)) skipOrderUptoCard

/-- THE SECOND FORM's CARD OF 'saltuslaw17.LabelJoins'. -/
def labelJoinsUptoCard : Claim7 := { stood := { row := labelJoinsUptoRow, standIns := [], harness := (true, "cb13fbec1699a0a65615e28e86c07974295fc36abbcd6091cbd0d6dcc0ed141d"), looks := false }, kinds := [], alts := [], laidByText := true, laidKinds := [.data], laidTests := true, laidLooks := .later }
def LabelJoinsUptoCardSaid : Prop := Claim7.holds Tryd.pinned (.plain (OpenSpec.upto labelJoinsSpec)) labelJoinsUptoCard

/-- THE SECOND FORM's CARD OF 'saltuslaw16.SkipPuts'. -/
def skipPutsUptoCard : Claim7 := { stood := { row := skipPutsUptoRow, standIns := [], harness := (true, "cb13fbec1699a0a65615e28e86c07974295fc36abbcd6091cbd0d6dcc0ed141d"), looks := false }, kinds := [], alts := [], laidByText := true, laidKinds := [.data], laidTests := true, laidLooks := .later }
def SkipPutsUptoCardSaid : Prop := Claim7.holds Tryd.pinned (.plain (OpenSpec.upto skipPutsSpec)) skipPutsUptoCard

/-- THE SECOND FORM's CARD OF 'saltuslaw17.LabelMade'. -/
def labelMadeUptoCard : Claim7 := { stood := { row := labelMadeUptoRow, standIns := [], harness := (true, "cb13fbec1699a0a65615e28e86c07974295fc36abbcd6091cbd0d6dcc0ed141d"), looks := false }, kinds := [], alts := [], laidByText := true, laidKinds := [.data], laidTests := true, laidLooks := .later }
def LabelMadeUptoCardSaid : Prop := Claim7.holds Tryd.pinned (.plain (OpenSpec.upto labelMadeSpec)) labelMadeUptoCard

/-- THE SECOND FORM's CARD OF 'saltuslaw18.ProofChecks'. -/
def proofChecksUptoCard : Claim7 := { stood := { row := proofChecksUptoRow, standIns := [], harness := (true, "cb13fbec1699a0a65615e28e86c07974295fc36abbcd6091cbd0d6dcc0ed141d"), looks := false }, kinds := [], alts := [], laidByText := true, laidKinds := [.data], laidTests := true, laidLooks := .later }
def ProofChecksUptoCardSaid : Prop := Claim7.holds Tryd.pinned (.plain (OpenSpec.upto proofChecksSpec)) proofChecksUptoCard

/-- THE SECOND FORM's CARD OF 'saltuslaw18.ProofShows'. -/
def proofShowsUptoCard : Claim7 := { stood := { row := proofShowsUptoRow, standIns := [], harness := (true, "cb13fbec1699a0a65615e28e86c07974295fc36abbcd6091cbd0d6dcc0ed141d"), looks := false }, kinds := [], alts := [], laidByText := true, laidKinds := [.data], laidTests := true, laidLooks := .later }
def ProofShowsUptoCardSaid : Prop := Claim7.holds Tryd.pinned (.plain (OpenSpec.upto proofShowsSpec)) proofShowsUptoCard

/-- THE SECOND FORM's CARD OF 'saltuslaw18.ProofBinds'. -/
def proofBindsUptoCard : Claim7 := { stood := { row := proofBindsUptoRow, standIns := [], harness := (true, "cb13fbec1699a0a65615e28e86c07974295fc36abbcd6091cbd0d6dcc0ed141d"), looks := false }, kinds := [], alts := [], laidByText := true, laidKinds := [.data], laidTests := true, laidLooks := .later }
def ProofBindsUptoCardSaid : Prop := Claim7.holds Tryd.pinned (.plain (OpenSpec.upto proofBindsSpec)) proofBindsUptoCard
end Rows
end Go.Proofs.YtolbhliepkcihaaDoor
