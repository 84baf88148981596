/-
  DERIVED. GIVEN WITH THE SEED: THE CARDS: each row of YtlomieopppndeaaGreatDoorRows.lean that lists a variable, with what it lists TIED to the program's text (the seventh form; the later family's looks); each row that meets fmt, with fmt's text TOLD by the authors' own Lean function (tested against real Go, not proved from fmt's source: count such statements apart). THE CARD IS WHAT COUNTS. Prove the row's statement (the work); the ties are given (YtlomieopppndeaaGreatDoorTie.lean); close each card by the builder's one call (the guide's Derived/Test/ToyasCard.lean, 'card_holds'). Laid BY PROGRAM, IN A SANDBOX (cutbox-door.mjs). By AI agents, Wed Nov 11 2026. No macro, syntax, notation, axiom, sorry.
-/
import Derived.Test.YtlomieopppndeaaGreatDoorRows
import GoSem.ClaimSeven
namespace Go.Proofs.YtlomieopppndeaaGreatDoor
namespace Rows

/-- THE TIED CARD OF 'roundelaylaw06.PathFinds'. -/
def pathFindsCard : Claim7 := { stood := { row := pathFindsRow, standIns := [], harness := (true, "98dc0e81041ff468a5bb069f559c6a47946ccf4fd6956b2c61f076ee88f06783"), looks := true }, kinds := [], alts := [], laidByText := true, laidKinds := [.data, .data, .data, .data, .handle, .sentinel, .sentinel, .data, .data, .pinned], laidTests := true, laidLooks := .later }
def PathFindsCardSaid : Prop := Claim7.holds Tryz.pinned (.plain (OpenSpec.ofChange pathFindsSpec)) pathFindsCard

/-- THE TIED CARD OF 'roundelaylaw17.PlanExact'. -/
def planExactCard : Claim7 := { stood := { row := planExactRow, standIns := [], harness := (true, "98dc0e81041ff468a5bb069f559c6a47946ccf4fd6956b2c61f076ee88f06783"), looks := true }, kinds := [], alts := [], laidByText := true, laidKinds := [.data, .data, .data, .data, .sentinel, .sentinel, .data, .data, .pinned], laidTests := true, laidLooks := .later }
def PlanExactCardSaid : Prop := Claim7.holds Tryz.pinned (.plain (OpenSpec.ofChange planExactSpec)) planExactCard

/-- THE TIED CARD OF 'roundelaylaw16.FilterReads'. -/
def filterReadsCard : Claim7 := { stood := { row := filterReadsRow, standIns := [], harness := (true, "98dc0e81041ff468a5bb069f559c6a47946ccf4fd6956b2c61f076ee88f06783"), looks := true }, kinds := [], alts := [], laidByText := true, laidKinds := [.data, .data, .data, .data, .handle, .sentinel, .sentinel, .widerDeep, .data, .data, .data, .pinned], laidTests := true, laidLooks := .later }
def FilterReadsCardSaid : Prop := Claim7.holds Tryz.pinned (.plain (OpenSpec.ofChange filterReadsSpec)) filterReadsCard

/-- THE TIED CARD OF 'roundelaylaw16.FilterMeets'. -/
def filterMeetsCard : Claim7 := { stood := { row := filterMeetsRow, standIns := [], harness := (true, "98dc0e81041ff468a5bb069f559c6a47946ccf4fd6956b2c61f076ee88f06783"), looks := true }, kinds := [], alts := [], laidByText := true, laidKinds := [.data, .data, .data, .data, .handle, .sentinel, .sentinel, .widerDeep, .data, .data, .data, .pinned], laidTests := true, laidLooks := .later }
def FilterMeetsCardSaid : Prop := Claim7.holds Tryz.pinned (.plain (OpenSpec.ofChange filterMeetsSpec)) filterMeetsCard

/-- THE TIED CARD OF 'roundelaylaw16.FilterJoins'. -/
def filterJoinsCard : Claim7 := { stood := { row := filterJoinsRow, standIns := [], harness := (true, "98dc0e81041ff468a5bb069f559c6a47946ccf4fd6956b2c61f076ee88f06783"), looks := true }, kinds := [], alts := [], laidByText := true, laidKinds := [.data, .data, .data, .data, .handle, .sentinel, .sentinel, .widerDeep, .data, .data, .data, .pinned], laidTests := true, laidLooks := .later }
def FilterJoinsCardSaid : Prop := Claim7.holds Tryz.pinned (.plain (OpenSpec.ofChange filterJoinsSpec)) filterJoinsCard

/-- THE TIED CARD OF 'roundelaylaw16.FilterTests'. -/
def filterTestsCard : Claim7 := { stood := { row := filterTestsRow, standIns := [], harness := (true, "98dc0e81041ff468a5bb069f559c6a47946ccf4fd6956b2c61f076ee88f06783"), looks := true }, kinds := [], alts := [], laidByText := true, laidKinds := [.data, .data, .data, .data, .handle, .sentinel, .sentinel, .widerDeep, .data, .data, .pinned], laidTests := true, laidLooks := .later }
def FilterTestsCardSaid : Prop := Claim7.holds Tryz.pinned (.plain (OpenSpec.ofChange filterTestsSpec)) filterTestsCard

/-- THE TIED CARD OF 'roundelaylaw16.FilterIn'. -/
def filterInCard : Claim7 := { stood := { row := filterInRow, standIns := [], harness := (true, "98dc0e81041ff468a5bb069f559c6a47946ccf4fd6956b2c61f076ee88f06783"), looks := true }, kinds := [], alts := [], laidByText := true, laidKinds := [.data, .data, .data, .data, .handle, .sentinel, .sentinel, .widerDeep, .data, .data, .pinned], laidTests := true, laidLooks := .later }
def FilterInCardSaid : Prop := Claim7.holds Tryz.pinned (.plain (OpenSpec.ofChange filterInSpec)) filterInCard

/-- THE TIED CARD OF 'roundelaylaw16.FilterNone'. -/
def filterNoneCard : Claim7 := { stood := { row := filterNoneRow, standIns := [], harness := (true, "98dc0e81041ff468a5bb069f559c6a47946ccf4fd6956b2c61f076ee88f06783"), looks := true }, kinds := [], alts := [], laidByText := true, laidKinds := [.data, .data, .data, .data, .handle, .sentinel, .sentinel, .widerDeep, .data, .data, .pinned], laidTests := true, laidLooks := .later }
def FilterNoneCardSaid : Prop := Claim7.holds Tryz.pinned (.plain (OpenSpec.ofChange filterNoneSpec)) filterNoneCard

/-- THE TIED CARD OF 'roundelaylaw17.PlanSound'. -/
def planSoundCard : Claim7 := { stood := { row := planSoundRow, standIns := [], harness := (true, "98dc0e81041ff468a5bb069f559c6a47946ccf4fd6956b2c61f076ee88f06783"), looks := true }, kinds := [], alts := [], laidByText := true, laidKinds := [.data, .data, .data, .data, .sentinel, .sentinel, .widerDeep, .data, .data, .data, .data, .pinned], laidTests := true, laidLooks := .later }
def PlanSoundCardSaid : Prop := Claim7.holds Tryz.pinned (.plain (OpenSpec.ofChange planSoundSpec)) planSoundCard

/-- THE TIED CARD OF 'roundelaylaw06.PathPuts'. -/
def pathPutsCard : Claim7 := { stood := { row := pathPutsRow, standIns := [], harness := (true, "98dc0e81041ff468a5bb069f559c6a47946ccf4fd6956b2c61f076ee88f06783"), looks := true }, kinds := [], alts := [], laidByText := true, laidKinds := [.data, .data, .data, .data, .handle, .sentinel, .sentinel, .data, .data, .pinned], laidTests := true, laidLooks := .later }
def PathPutsCardSaid : Prop := Claim7.holds Tryz.pinned (.plain (OpenSpec.ofChange pathPutsSpec)) pathPutsCard

/-- THE TIED CARD OF 'roundelaylaw06.PathWhere'. -/
def pathWhereCard : Claim7 := { stood := { row := pathWhereRow, standIns := [], harness := (true, "98dc0e81041ff468a5bb069f559c6a47946ccf4fd6956b2c61f076ee88f06783"), looks := true }, kinds := [], alts := [], laidByText := true, laidKinds := [.data, .data, .data, .data, .handle, .sentinel, .sentinel, .data, .data, .pinned], laidTests := true, laidLooks := .later }
def PathWhereCardSaid : Prop := Claim7.holds Tryz.pinned (.plain (OpenSpec.ofChange pathWhereSpec)) pathWhereCard

/-- THE TIED CARD OF 'roundelaylaw06.PathCuts'. -/
def pathCutsCard : Claim7 := { stood := { row := pathCutsRow, standIns := [], harness := (true, "98dc0e81041ff468a5bb069f559c6a47946ccf4fd6956b2c61f076ee88f06783"), looks := true }, kinds := [], alts := [], laidByText := true, laidKinds := [.data, .data, .data, .data, .handle, .sentinel, .sentinel, .data, .data, .pinned], laidTests := true, laidLooks := .later }
def PathCutsCardSaid : Prop := Claim7.holds Tryz.pinned (.plain (OpenSpec.ofChange pathCutsSpec)) pathCutsCard

/-- THE SECOND FORM's CARD OF 'roundelaylaw06.PathFinds'. -/
def pathFindsUptoCard : Claim7 := { stood := { row := pathFindsUptoRow, standIns := [], harness := (true, "98dc0e81041ff468a5bb069f559c6a47946ccf4fd6956b2c61f076ee88f06783"), looks := true }, kinds := [], alts := [], laidByText := true, laidKinds := [.data, .data, .data, .data, .handle, .sentinel, .sentinel, .data, .data, .pinned], laidTests := true, laidLooks := .later }
def PathFindsUptoCardSaid : Prop := Claim7.holds Tryz.pinned (.plain (OpenSpec.upto pathFindsSpec)) pathFindsUptoCard

/-- THE SECOND FORM's CARD OF 'roundelaylaw17.PlanExact'. -/
def planExactUptoCard : Claim7 := { stood := { row := planExactUptoRow, standIns := [], harness := (true, "98dc0e81041ff468a5bb069f559c6a47946ccf4fd6956b2c61f076ee88f06783"), looks := true }, kinds := [], alts := [], laidByText := true, laidKinds := [.data, .data, .data, .data, .sentinel, .sentinel, .data, .data, .pinned], laidTests := true, laidLooks := .later }
def PlanExactUptoCardSaid : Prop := Claim7.holds Tryz.pinned (.plain (OpenSpec.upto planExactSpec)) planExactUptoCard

/-- THE SECOND FORM's CARD OF 'roundelaylaw16.FilterReads'. -/
def filterReadsUptoCard : Claim7 := { stood := { row := filterReadsUptoRow, standIns := [], harness := (true, "98dc0e81041ff468a5bb069f559c6a47946ccf4fd6956b2c61f076ee88f06783"), looks := true }, kinds := [], alts := [], laidByText := true, laidKinds := [.data, .data, .data, .data, .handle, .sentinel, .sentinel, .widerDeep, .data, .data, .data, .pinned], laidTests := true, laidLooks := .later }
def FilterReadsUptoCardSaid : Prop := Claim7.holds Tryz.pinned (.plain (OpenSpec.upto filterReadsSpec)) filterReadsUptoCard

/-- THE SECOND FORM's CARD OF 'roundelaylaw16.FilterMeets'. -/
def filterMeetsUptoCard : Claim7 := { stood := { row := filterMeetsUptoRow, standIns := [], harness := (true, "98dc0e81041ff468a5bb069f559c6a47946ccf4fd6956b2c61f076ee88f06783"), looks := true }, kinds := [], alts := [], laidByText := true, laidKinds := [.data, .data, .data, .data, .handle, .sentinel, .sentinel, .widerDeep, .data, .data, .data, .pinned], laidTests := true, laidLooks := .later }
def FilterMeetsUptoCardSaid : Prop := Claim7.holds Tryz.pinned (.plain (OpenSpec.upto filterMeetsSpec)) filterMeetsUptoCard

/-- THE SECOND FORM's CARD OF 'roundelaylaw16.FilterJoins'. -/
def filterJoinsUptoCard : Claim7 := { stood := { row := filterJoinsUptoRow, standIns := [], harness := (true, "98dc0e81041ff468a5bb069f559c6a47946ccf4fd6956b2c61f076ee88f06783"), looks := true }, kinds := [], alts := [], laidByText := true, laidKinds := [.data, .data, .data, .data, .handle, .sentinel, .sentinel, .widerDeep, .data, .data, .data, .pinned], laidTests := true, laidLooks := .later }
def FilterJoinsUptoCardSaid : Prop := Claim7.holds Tryz.pinned (.plain (OpenSpec.upto filterJoinsSpec)) filterJoinsUptoCard

/-- THE SECOND FORM's CARD OF 'roundelaylaw16.FilterTests'. -/
def filterTestsUptoCard : Claim7 := { stood := { row := filterTestsUptoRow, standIns := [], harness := (true, "98dc0e81041ff468a5bb069f559c6a47946ccf4fd6956b2c61f076ee88f06783"), looks := true }, kinds := [], alts := [], laidByText := true, laidKinds := [.data, .data, .data, .data, .handle, .sentinel, .sentinel, .widerDeep, .data, .data, .pinned], laidTests := true, laidLooks := .later }
def FilterTestsUptoCardSaid : Prop := Claim7.holds Tryz.pinned (.plain (OpenSpec.upto filterTestsSpec)) filterTestsUptoCard

/-- THE SECOND FORM's CARD OF 'roundelaylaw16.FilterIn'. -/
def filterInUptoCard : Claim7 := { stood := { row := filterInUptoRow, standIns := [], harness := (true, "98dc0e81041ff468a5bb069f559c6a47946ccf4fd6956b2c61f076ee88f06783"), looks := true }, kinds := [], alts := [], laidByText := true, laidKinds := [.data, .data, .data, .data, .handle, .sentinel, .sentinel, .widerDeep, .data, .data, .pinned], laidTests := true, laidLooks := .later }
def FilterInUptoCardSaid : Prop := Claim7.holds Tryz.pinned (.plain (OpenSpec.upto filterInSpec)) filterInUptoCard

/-- THE SECOND FORM's CARD OF 'roundelaylaw16.FilterNone'. -/
def filterNoneUptoCard : Claim7 := { stood := { row := filterNoneUptoRow, standIns := [], harness := (true, "98dc0e81041ff468a5bb069f559c6a47946ccf4fd6956b2c61f076ee88f06783"), looks := true }, kinds := [], alts := [], laidByText := true, laidKinds := [.data, .data, .data, .data, .handle, .sentinel, .sentinel, .widerDeep, .data, .data, .pinned], laidTests := true, laidLooks := .later }
def FilterNoneUptoCardSaid : Prop := Claim7.holds Tryz.pinned (.plain (OpenSpec.upto filterNoneSpec)) filterNoneUptoCard

/-- THE SECOND FORM's CARD OF 'roundelaylaw17.PlanSound'. -/
def planSoundUptoCard : Claim7 := { stood := { row := planSoundUptoRow, standIns := [], harness := (true, "98dc0e81041ff468a5bb069f559c6a47946ccf4fd6956b2c61f076ee88f06783"), looks := true }, kinds := [], alts := [], laidByText := true, laidKinds := [.data, .data, .data, .data, .sentinel, .sentinel, .widerDeep, .data, .data, .data, .data, .pinned], laidTests := true, laidLooks := .later }
def PlanSoundUptoCardSaid : Prop := Claim7.holds Tryz.pinned (.plain (OpenSpec.upto planSoundSpec)) planSoundUptoCard

/-- THE SECOND FORM's CARD OF 'roundelaylaw06.PathPuts'. -/
def pathPutsUptoCard : Claim7 := { stood := { row := pathPutsUptoRow, standIns := [], harness := (true, "98dc0e81041ff468a5bb069f559c6a47946ccf4fd6956b2c61f076ee88f06783"), looks := true }, kinds := [], alts := [], laidByText := true, laidKinds := [.data, .data, .data, .data, .handle, .sentinel, .sentinel, .data, .data, .pinned], laidTests := true, laidLooks := .later }
def PathPutsUptoCardSaid : Prop := Claim7.holds Tryz.pinned (.plain (OpenSpec.upto pathPutsSpec)) pathPutsUptoCard

/-- THE SECOND FORM's CARD OF 'roundelaylaw06.PathWhere'. -/
def pathWhereUptoCard : Claim7 := { stood := { row := pathWhereUptoRow, standIns := [], harness := (true, "98dc0e81041ff468a5bb069f559c6a47946ccf4fd6956b2c61f076ee88f06783"), looks := true }, kinds := [], alts := [], laidByText := true, laidKinds := [.data, .data, .data, .data, .handle, .sentinel, .sentinel, .data, .data, .pinned], laidTests := true, laidLooks := .later }
def PathWhereUptoCardSaid : Prop := Claim7.holds Tryz.pinned (.plain (OpenSpec.upto pathWhereSpec)) pathWhereUptoCard

/-- THE SECOND FORM's CARD OF 'roundelaylaw06.PathCuts'. -/
def pathCutsUptoCard : Claim7 := { stood := { row := pathCutsUptoRow, standIns := [], harness := (true, "98dc0e81041ff468a5bb069f559c6a47946ccf4fd6956b2c61f076ee88f06783"), looks := true }, kinds := [], alts := [], laidByText := true, laidKinds := [.data, .data, .data, .data, .handle, .sentinel, .sentinel, .data, .data, .pinned], laidTests := true, laidLooks := .later }
def PathCutsUptoCardSaid : Prop := Claim7.holds Tryz.pinned (.plain (OpenSpec.upto pathCutsSpec)) pathCutsUptoCard
end Rows
end Go.Proofs.YtlomieopppndeaaGreatDoor
