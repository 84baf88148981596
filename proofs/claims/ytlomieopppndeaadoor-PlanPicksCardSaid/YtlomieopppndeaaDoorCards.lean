/-
  DERIVED. GIVEN WITH THE SEED: THE CARDS: each row of YtlomieopppndeaaDoorRows.lean that lists a variable, with what it lists TIED to the program's text (the seventh form; the later family's looks); each row that meets fmt, with fmt's text TOLD by the authors' own Lean function (tested against real Go, not proved from fmt's source: count such statements apart). THE CARD IS WHAT COUNTS. Prove the row's statement (the work); the ties are given (YtlomieopppndeaaDoorTie.lean); close each card by the builder's one call (the guide's Derived/Test/ToyasCard.lean, 'card_holds'). Laid BY PROGRAM, IN A SANDBOX (cutbox-door.mjs). By AI agents, Wed Nov 11 2026. No macro, syntax, notation, axiom, sorry.
-/
import Derived.Test.YtlomieopppndeaaDoorRows
import GoSem.ClaimSeven
namespace Go.Proofs.YtlomieopppndeaaDoor
namespace Rows

/-- THE TIED CARD OF 'roundelaylaw17.PlanBounds'. -/
def planBoundsCard : Claim7 := { stood := { row := planBoundsRow, standIns := [], harness := (true, "f884129381eed92b1576327c320fa193bc03bc6a1db99f4297485c78545322e9"), looks := true }, kinds := [], alts := [], laidByText := true, laidKinds := [.data, .widerDeep, .data, .data, .data, .data, .pinned], laidTests := true, laidLooks := .later }
def PlanBoundsCardSaid : Prop := Claim7.holds Tryd.pinned (.plain (OpenSpec.ofChange planBoundsSpec)) planBoundsCard

/-- THE TIED CARD OF 'roundelaylaw17.PlanPicks'. -/
def planPicksCard : Claim7 := { stood := { row := planPicksRow, standIns := [], harness := (true, "f884129381eed92b1576327c320fa193bc03bc6a1db99f4297485c78545322e9"), looks := true }, kinds := [], alts := [], laidByText := true, laidKinds := [.data, .widerDeep, .data, .data, .data, .data, .pinned], laidTests := true, laidLooks := .later }
def PlanPicksCardSaid : Prop := Claim7.holds Tryd.pinned (.plain (OpenSpec.ofChange planPicksSpec)) planPicksCard

/-- THE TIED CARD OF 'roundelaylaw17.PlanFewer'. -/
def planFewerCard : Claim7 := { stood := { row := planFewerRow, standIns := [], harness := (true, "f884129381eed92b1576327c320fa193bc03bc6a1db99f4297485c78545322e9"), looks := true }, kinds := [], alts := [], laidByText := true, laidKinds := [.data, .widerDeep, .data, .data, .data, .data, .pinned], laidTests := true, laidLooks := .later }
def PlanFewerCardSaid : Prop := Claim7.holds Tryd.pinned (.plain (OpenSpec.ofChange planFewerSpec)) planFewerCard

/-- THE TIED CARD OF 'roundelaylaw17.PlanBoth'. -/
def planBothCard : Claim7 := { stood := { row := planBothRow, standIns := [], harness := (true, "f884129381eed92b1576327c320fa193bc03bc6a1db99f4297485c78545322e9"), looks := true }, kinds := [], alts := [], laidByText := true, laidKinds := [.data, .widerDeep, .data, .data, .data, .data, .pinned], laidTests := true, laidLooks := .later }
def PlanBothCardSaid : Prop := Claim7.holds Tryd.pinned (.plain (OpenSpec.ofChange planBothSpec)) planBothCard

/-- THE TIED CARD OF 'roundelaylaw06.PathParses'. -/
def pathParsesCard : Claim7 := { stood := { row := pathParsesRow, standIns := [], harness := (true, "f884129381eed92b1576327c320fa193bc03bc6a1db99f4297485c78545322e9"), looks := true }, kinds := [], alts := [], laidByText := true, laidKinds := [.data, .data, .data, .data, .handle, .sentinel, .sentinel, .pinned], laidTests := true, laidLooks := .later }
def PathParsesCardSaid : Prop := Claim7.holds Tryd.pinned (.plain (OpenSpec.ofChange pathParsesSpec)) pathParsesCard

/-- THE TIED CARD OF 'roundelaylaw06.PathLong'. -/
def pathLongCard : Claim7 := { stood := { row := pathLongRow, standIns := [], harness := (true, "f884129381eed92b1576327c320fa193bc03bc6a1db99f4297485c78545322e9"), looks := true }, kinds := [], alts := [], laidByText := true, laidKinds := [.data, .data, .data, .data, .handle, .sentinel, .sentinel, .pinned], laidTests := true, laidLooks := .later }
def PathLongCardSaid : Prop := Claim7.holds Tryd.pinned (.plain (OpenSpec.ofChange pathLongSpec)) pathLongCard

/-- THE SECOND FORM's CARD OF 'roundelaylaw17.PlanBounds'. -/
def planBoundsUptoCard : Claim7 := { stood := { row := planBoundsUptoRow, standIns := [], harness := (true, "f884129381eed92b1576327c320fa193bc03bc6a1db99f4297485c78545322e9"), looks := true }, kinds := [], alts := [], laidByText := true, laidKinds := [.data, .widerDeep, .data, .data, .data, .data, .pinned], laidTests := true, laidLooks := .later }
def PlanBoundsUptoCardSaid : Prop := Claim7.holds Tryd.pinned (.plain (OpenSpec.upto planBoundsSpec)) planBoundsUptoCard

/-- THE SECOND FORM's CARD OF 'roundelaylaw17.PlanPicks'. -/
def planPicksUptoCard : Claim7 := { stood := { row := planPicksUptoRow, standIns := [], harness := (true, "f884129381eed92b1576327c320fa193bc03bc6a1db99f4297485c78545322e9"), looks := true }, kinds := [], alts := [], laidByText := true, laidKinds := [.data, .widerDeep, .data, .data, .data, .data, .pinned], laidTests := true, laidLooks := .later }
def PlanPicksUptoCardSaid : Prop := Claim7.holds Tryd.pinned (.plain (OpenSpec.upto planPicksSpec)) planPicksUptoCard

/-- THE SECOND FORM's CARD OF 'roundelaylaw17.PlanFewer'. -/
def planFewerUptoCard : Claim7 := { stood := { row := planFewerUptoRow, standIns := [], harness := (true, "f884129381eed92b1576327c320fa193bc03bc6a1db99f4297485c78545322e9"), looks := true }, kinds := [], alts := [], laidByText := true, laidKinds := [.data, .widerDeep, .data, .data, .data, .data, .pinned], laidTests := true, laidLooks := .later }
def PlanFewerUptoCardSaid : Prop := Claim7.holds Tryd.pinned (.plain (OpenSpec.upto planFewerSpec)) planFewerUptoCard

/-- THE SECOND FORM's CARD OF 'roundelaylaw17.PlanBoth'. -/
def planBothUptoCard : Claim7 := { stood := { row := planBothUptoRow, standIns := [], harness := (true, "f884129381eed92b1576327c320fa193bc03bc6a1db99f4297485c78545322e9"), looks := true }, kinds := [], alts := [], laidByText := true, laidKinds := [.data, .widerDeep, .data, .data, .data, .data, .pinned], laidTests := true, laidLooks := .later }
def PlanBothUptoCardSaid : Prop := Claim7.holds Tryd.pinned (.plain (OpenSpec.upto planBothSpec)) planBothUptoCard

/-- THE SECOND FORM's CARD OF 'roundelaylaw06.PathParses'. -/
def pathParsesUptoCard : Claim7 := { stood := { row := pathParsesUptoRow, standIns := [], harness := (true, "f884129381eed92b1576327c320fa193bc03bc6a1db99f4297485c78545322e9"), looks := true }, kinds := [], alts := [], laidByText := true, laidKinds := [.data, .data, .data, .data, .handle, .sentinel, .sentinel, .pinned], laidTests := true, laidLooks := .later }
def PathParsesUptoCardSaid : Prop := Claim7.holds Tryd.pinned (.plain (OpenSpec.upto pathParsesSpec)) pathParsesUptoCard

/-- THE SECOND FORM's CARD OF 'roundelaylaw06.PathLong'. -/
def pathLongUptoCard : Claim7 := { stood := { row := pathLongUptoRow, standIns := [], harness := (true, "f884129381eed92b1576327c320fa193bc03bc6a1db99f4297485c78545322e9"), looks := true }, kinds := [], alts := [], laidByText := true, laidKinds := [.data, .data, .data, .data, .handle, .sentinel, .sentinel, .pinned], laidTests := true, laidLooks := .later }
def PathLongUptoCardSaid : Prop := Claim7.holds Tryd.pinned (.plain (OpenSpec.upto pathLongSpec)) pathLongUptoCard
end Rows
end Go.Proofs.YtlomieopppndeaaDoor
