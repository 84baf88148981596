/-
  DERIVED. GIVEN WITH THE SEED: THE CARDS: each row of YtecfaaeaipjlaaaGreatDoorRows.lean that lists a variable, with what it lists TIED to the program's text (the seventh form; the later family's looks); each row that meets fmt, with fmt's text TOLD by the authors' own Lean function (tested against real Go, not proved from fmt's source: count such statements apart). THE CARD IS WHAT COUNTS. Prove the row's statement (the work); the ties are given (YtecfaaeaipjlaaaGreatDoorTie.lean); close each card by the builder's one call (the guide's Derived/Test/ToyasCard.lean, 'card_holds'). Laid BY PROGRAM, IN A SANDBOX (cutbox-door.mjs). By AI agents, Wed Nov 11 2026. No macro, syntax, notation, axiom, sorry.
-/
import Derived.Test.YtecfaaeaipjlaaaGreatDoorRows
import GoSem.ClaimSeven
namespace Go.Proofs.YtecfaaeaipjlaaaGreatDoor
namespace Rows

/-- THE TIED CARD OF 'roundelaylaw21.BuildModes'. -/
def buildModesCard : Claim7 := { stood := { row := buildModesRow, standIns := [], harness := (true, "30e351a4ebc91b8cc45d137ef9795d2f70ee0b292b790e9c139a8e4a2bc8103f"), looks := true }, kinds := [], alts := [], laidByText := true, laidKinds := [.data, .data, .data, .data, .sentinel, .sentinel, .pinned], laidTests := true, laidLooks := .later }
def BuildModesCardSaid : Prop := Claim7.holds Tryz.pinned (.plain (OpenSpec.ofChange buildModesSpec)) buildModesCard

/-- THE TIED CARD OF 'roundelaylaw21.BuildTwice'. -/
def buildTwiceCard : Claim7 := { stood := { row := buildTwiceRow, standIns := [], harness := (true, "30e351a4ebc91b8cc45d137ef9795d2f70ee0b292b790e9c139a8e4a2bc8103f"), looks := true }, kinds := [], alts := [], laidByText := true, laidKinds := [.data, .data, .data, .data, .handle, .sentinel, .sentinel, .pinned], laidTests := true, laidLooks := .later }
def BuildTwiceCardSaid : Prop := Claim7.holds Tryz.pinned (.plain (OpenSpec.ofChange buildTwiceSpec)) buildTwiceCard

/-- THE TIED CARD OF 'roundelaylaw19.CollFits'. -/
def collFitsCard : Claim7 := { stood := { row := collFitsRow, standIns := [], harness := (true, "30e351a4ebc91b8cc45d137ef9795d2f70ee0b292b790e9c139a8e4a2bc8103f"), looks := true }, kinds := [], alts := [], laidByText := true, laidKinds := [.data, .data, .data, .data, .handle, .sentinel, .sentinel, .pinned], laidTests := true, laidLooks := .later }
def CollFitsCardSaid : Prop := Claim7.holds Tryz.pinned (.plain (OpenSpec.ofChange collFitsSpec)) collFitsCard

/-- THE SECOND FORM's CARD OF 'roundelaylaw21.BuildModes'. -/
def buildModesUptoCard : Claim7 := { stood := { row := buildModesUptoRow, standIns := [], harness := (true, "30e351a4ebc91b8cc45d137ef9795d2f70ee0b292b790e9c139a8e4a2bc8103f"), looks := true }, kinds := [], alts := [], laidByText := true, laidKinds := [.data, .data, .data, .data, .sentinel, .sentinel, .pinned], laidTests := true, laidLooks := .later }
def BuildModesUptoCardSaid : Prop := Claim7.holds Tryz.pinned (.plain (OpenSpec.upto buildModesSpec)) buildModesUptoCard

/-- THE SECOND FORM's CARD OF 'roundelaylaw21.BuildTwice'. -/
def buildTwiceUptoCard : Claim7 := { stood := { row := buildTwiceUptoRow, standIns := [], harness := (true, "30e351a4ebc91b8cc45d137ef9795d2f70ee0b292b790e9c139a8e4a2bc8103f"), looks := true }, kinds := [], alts := [], laidByText := true, laidKinds := [.data, .data, .data, .data, .handle, .sentinel, .sentinel, .pinned], laidTests := true, laidLooks := .later }
def BuildTwiceUptoCardSaid : Prop := Claim7.holds Tryz.pinned (.plain (OpenSpec.upto buildTwiceSpec)) buildTwiceUptoCard

/-- THE SECOND FORM's CARD OF 'roundelaylaw19.CollFits'. -/
def collFitsUptoCard : Claim7 := { stood := { row := collFitsUptoRow, standIns := [], harness := (true, "30e351a4ebc91b8cc45d137ef9795d2f70ee0b292b790e9c139a8e4a2bc8103f"), looks := true }, kinds := [], alts := [], laidByText := true, laidKinds := [.data, .data, .data, .data, .handle, .sentinel, .sentinel, .pinned], laidTests := true, laidLooks := .later }
def CollFitsUptoCardSaid : Prop := Claim7.holds Tryz.pinned (.plain (OpenSpec.upto collFitsSpec)) collFitsUptoCard
end Rows
end Go.Proofs.YtecfaaeaipjlaaaGreatDoor
