/-
  DERIVED. GIVEN WITH THE SEED: THE CARDS: each row of YtmondgamackcgaaDoorRows.lean that lists a variable, with what it lists TIED to the program's text (the seventh form; the later family's looks); each row that meets fmt, with fmt's text TOLD by the authors' own Lean function (tested against real Go, not proved from fmt's source: count such statements apart). THE CARD IS WHAT COUNTS. Prove the row's statement (the work); the ties are given (YtmondgamackcgaaDoorTie.lean); close each card by the builder's one call (the guide's Derived/Test/ToyasCard.lean, 'card_holds'). Laid BY PROGRAM, IN A SANDBOX (cutbox-door.mjs). By AI agents, Wed Nov 11 2026. No macro, syntax, notation, axiom, sorry.
-/
import Derived.Test.YtmondgamackcgaaDoorRows
import GoSem.ClaimSeven
namespace Go.Proofs.YtmondgamackcgaaDoor
namespace Rows

/-- THE TIED CARD OF 'phalaropelaw05.VnameFew'. -/
def vnameFewCard : Claim7 := { stood := { row := vnameFewRow, standIns := [], harness := (true, "d17c20c0a43322617d3f160cdd961efc10c8916e3fc3f706e3636ab0b07fe804"), looks := false }, kinds := [], alts := [], laidByText := true, laidKinds := [.data, .pinned], laidTests := true, laidLooks := .later }
def VnameFewCardSaid : Prop := Claim7.holds Tryd.pinned (.plain (OpenSpec.ofChange vnameFewSpec)) vnameFewCard

/-- THE TIED CARD OF 'phalaropelaw05.VnameLetters'. -/
def vnameLettersCard : Claim7 := { stood := { row := vnameLettersRow, standIns := [], harness := (true, "d17c20c0a43322617d3f160cdd961efc10c8916e3fc3f706e3636ab0b07fe804"), looks := false }, kinds := [], alts := [], laidByText := true, laidKinds := [.data, .pinned], laidTests := true, laidLooks := .later }
def VnameLettersCardSaid : Prop := Claim7.holds Tryd.pinned (.plain (OpenSpec.ofChange vnameLettersSpec)) vnameLettersCard

/-- THE TIED CARD OF 'phalaropelaw05.VnameTells'. -/
def vnameTellsCard : Claim7 := { stood := { row := vnameTellsRow, standIns := [], harness := (true, "d17c20c0a43322617d3f160cdd961efc10c8916e3fc3f706e3636ab0b07fe804"), looks := false }, kinds := [], alts := [], laidByText := true, laidKinds := [.data, .pinned], laidTests := true, laidLooks := .later }
def VnameTellsCardSaid : Prop := Claim7.holds Tryd.pinned (.plain (OpenSpec.ofChange vnameTellsSpec)) vnameTellsCard

/-- THE TIED CARD OF 'phalaropelaw05.VnameJoins'. -/
def vnameJoinsCard : Claim7 := { stood := { row := vnameJoinsRow, standIns := [], harness := (true, "d17c20c0a43322617d3f160cdd961efc10c8916e3fc3f706e3636ab0b07fe804"), looks := false }, kinds := [], alts := [], laidByText := true, laidKinds := [.data, .pinned], laidTests := true, laidLooks := .later }
def VnameJoinsCardSaid : Prop := Claim7.holds Tryd.pinned (.plain (OpenSpec.ofChange vnameJoinsSpec)) vnameJoinsCard

/-- THE TIED CARD OF 'phalaropelaw05.VnameParts'. -/
def vnamePartsCard : Claim7 := { stood := { row := vnamePartsRow, standIns := [], harness := (true, "d17c20c0a43322617d3f160cdd961efc10c8916e3fc3f706e3636ab0b07fe804"), looks := false }, kinds := [], alts := [], laidByText := true, laidKinds := [.data, .pinned], laidTests := true, laidLooks := .later }
def VnamePartsCardSaid : Prop := Claim7.holds Tryd.pinned (.plain (OpenSpec.ofChange vnamePartsSpec)) vnamePartsCard

/-- THE TIED CARD OF 'phalaropelaw05.VnameBegins'. -/
def vnameBeginsCard : Claim7 := { stood := { row := vnameBeginsRow, standIns := [], harness := (true, "d17c20c0a43322617d3f160cdd961efc10c8916e3fc3f706e3636ab0b07fe804"), looks := false }, kinds := [], alts := [], laidByText := true, laidKinds := [.data, .pinned], laidTests := true, laidLooks := .later }
def VnameBeginsCardSaid : Prop := Claim7.holds Tryd.pinned (.plain (OpenSpec.ofChange vnameBeginsSpec)) vnameBeginsCard

/-- THE SECOND FORM's CARD OF 'phalaropelaw05.VnameFew'. -/
def vnameFewUptoCard : Claim7 := { stood := { row := vnameFewUptoRow, standIns := [], harness := (true, "d17c20c0a43322617d3f160cdd961efc10c8916e3fc3f706e3636ab0b07fe804"), looks := false }, kinds := [], alts := [], laidByText := true, laidKinds := [.data, .pinned], laidTests := true, laidLooks := .later }
def VnameFewUptoCardSaid : Prop := Claim7.holds Tryd.pinned (.plain (OpenSpec.upto vnameFewSpec)) vnameFewUptoCard

/-- THE SECOND FORM's CARD OF 'phalaropelaw05.VnameLetters'. -/
def vnameLettersUptoCard : Claim7 := { stood := { row := vnameLettersUptoRow, standIns := [], harness := (true, "d17c20c0a43322617d3f160cdd961efc10c8916e3fc3f706e3636ab0b07fe804"), looks := false }, kinds := [], alts := [], laidByText := true, laidKinds := [.data, .pinned], laidTests := true, laidLooks := .later }
def VnameLettersUptoCardSaid : Prop := Claim7.holds Tryd.pinned (.plain (OpenSpec.upto vnameLettersSpec)) vnameLettersUptoCard

/-- THE SECOND FORM's CARD OF 'phalaropelaw05.VnameTells'. -/
def vnameTellsUptoCard : Claim7 := { stood := { row := vnameTellsUptoRow, standIns := [], harness := (true, "d17c20c0a43322617d3f160cdd961efc10c8916e3fc3f706e3636ab0b07fe804"), looks := false }, kinds := [], alts := [], laidByText := true, laidKinds := [.data, .pinned], laidTests := true, laidLooks := .later }
def VnameTellsUptoCardSaid : Prop := Claim7.holds Tryd.pinned (.plain (OpenSpec.upto vnameTellsSpec)) vnameTellsUptoCard

/-- THE SECOND FORM's CARD OF 'phalaropelaw05.VnameJoins'. -/
def vnameJoinsUptoCard : Claim7 := { stood := { row := vnameJoinsUptoRow, standIns := [], harness := (true, "d17c20c0a43322617d3f160cdd961efc10c8916e3fc3f706e3636ab0b07fe804"), looks := false }, kinds := [], alts := [], laidByText := true, laidKinds := [.data, .pinned], laidTests := true, laidLooks := .later }
def VnameJoinsUptoCardSaid : Prop := Claim7.holds Tryd.pinned (.plain (OpenSpec.upto vnameJoinsSpec)) vnameJoinsUptoCard

/-- THE SECOND FORM's CARD OF 'phalaropelaw05.VnameParts'. -/
def vnamePartsUptoCard : Claim7 := { stood := { row := vnamePartsUptoRow, standIns := [], harness := (true, "d17c20c0a43322617d3f160cdd961efc10c8916e3fc3f706e3636ab0b07fe804"), looks := false }, kinds := [], alts := [], laidByText := true, laidKinds := [.data, .pinned], laidTests := true, laidLooks := .later }
def VnamePartsUptoCardSaid : Prop := Claim7.holds Tryd.pinned (.plain (OpenSpec.upto vnamePartsSpec)) vnamePartsUptoCard

/-- THE SECOND FORM's CARD OF 'phalaropelaw05.VnameBegins'. -/
def vnameBeginsUptoCard : Claim7 := { stood := { row := vnameBeginsUptoRow, standIns := [], harness := (true, "d17c20c0a43322617d3f160cdd961efc10c8916e3fc3f706e3636ab0b07fe804"), looks := false }, kinds := [], alts := [], laidByText := true, laidKinds := [.data, .pinned], laidTests := true, laidLooks := .later }
def VnameBeginsUptoCardSaid : Prop := Claim7.holds Tryd.pinned (.plain (OpenSpec.upto vnameBeginsSpec)) vnameBeginsUptoCard
end Rows
end Go.Proofs.YtmondgamackcgaaDoor
