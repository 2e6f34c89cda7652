/-
  DERIVED. GIVEN WITH THE SEED: THE CARDS: each row of YtelhpneeiebeeaaGreatDoorRows.lean that lists a variable, with what it lists TIED to the program's text (the seventh form; the later family's looks); each row that meets fmt, with fmt's text TOLD by the authors' own Lean function (tested against real Go, not proved from fmt's source: count such statements apart). THE CARD IS WHAT COUNTS. Prove the row's statement (the work); the ties are given (YtelhpneeiebeeaaGreatDoorTie.lean); close each card by the builder's one call (the guide's Derived/Test/ToyasCard.lean, 'card_holds'). Laid BY PROGRAM, IN A SANDBOX (cutbox-door.mjs). By AI agents, Wed Nov 11 2026. No macro, syntax, notation, axiom, sorry.
-/
import Derived.Test.YtelhpneeiebeeaaGreatDoorRows
import GoSem.ClaimSeven
namespace Go.Proofs.YtelhpneeiebeeaaGreatDoor
namespace Rows

/-- THE TIED CARD OF 'toponymlaw10.PrintTurned'. -/
def printTurnedCard : Claim7 := { stood := { row := printTurnedRow, standIns := [], harness := (true, "7c5cd4114c70bfe4ff43d01138ebc072c18398d2880d8d2e2d9d64483326c34b"), looks := true }, kinds := [], alts := [], laidByText := true, laidKinds := [.data, .data, .data], laidTests := true, laidLooks := .later }
def PrintTurnedCardSaid : Prop := Claim7.holds Tryz.pinned (.plain (OpenSpec.ofChange printTurnedSpec)) printTurnedCard

/-- THE TIED CARD OF 'toponymlaw10.PrintShort'. -/
def printShortCard : Claim7 := { stood := { row := printShortRow, standIns := [], harness := (true, "7c5cd4114c70bfe4ff43d01138ebc072c18398d2880d8d2e2d9d64483326c34b"), looks := true }, kinds := [], alts := [], laidByText := true, laidKinds := [.data, .data, .data], laidTests := true, laidLooks := .later }
def PrintShortCardSaid : Prop := Claim7.holds Tryz.pinned (.plain (OpenSpec.ofChange printShortSpec)) printShortCard

/-- THE TIED CARD OF 'toponymlaw4.DataAny'. -/
def dataAnyCard : Claim7 := { stood := { row := dataAnyRow, standIns := [], harness := (true, "7c5cd4114c70bfe4ff43d01138ebc072c18398d2880d8d2e2d9d64483326c34b"), looks := true }, kinds := [], alts := [], laidByText := true, laidKinds := [.data, .data, .data, .data, .sentinel, .sentinel, .pinned], laidTests := true, laidLooks := .later }
def DataAnyCardSaid : Prop := Claim7.holds Tryz.pinned (.plain (OpenSpec.ofChange dataAnySpec)) dataAnyCard

/-- THE TIED CARD OF 'toponymlaw4.DataTwo'. -/
def dataTwoCard : Claim7 := { stood := { row := dataTwoRow, standIns := [], harness := (true, "7c5cd4114c70bfe4ff43d01138ebc072c18398d2880d8d2e2d9d64483326c34b"), looks := true }, kinds := [], alts := [], laidByText := true, laidKinds := [.data, .data, .data, .data, .sentinel, .sentinel, .pinned], laidTests := true, laidLooks := .later }
def DataTwoCardSaid : Prop := Claim7.holds Tryz.pinned (.plain (OpenSpec.ofChange dataTwoSpec)) dataTwoCard

/-- THE TIED CARD OF 'toponymlaw4.DataBack'. -/
def dataBackCard : Claim7 := { stood := { row := dataBackRow, standIns := [], harness := (true, "7c5cd4114c70bfe4ff43d01138ebc072c18398d2880d8d2e2d9d64483326c34b"), looks := true }, kinds := [], alts := [], laidByText := true, laidKinds := [.data, .data, .data, .data, .sentinel, .sentinel, .pinned], laidTests := true, laidLooks := .later }
def DataBackCardSaid : Prop := Claim7.holds Tryz.pinned (.plain (OpenSpec.ofChange dataBackSpec)) dataBackCard

/-- THE TIED CARD OF 'toponymlaw4.DataFolds'. -/
def dataFoldsCard : Claim7 := { stood := { row := dataFoldsRow, standIns := [], harness := (true, "7c5cd4114c70bfe4ff43d01138ebc072c18398d2880d8d2e2d9d64483326c34b"), looks := true }, kinds := [], alts := [], laidByText := true, laidKinds := [.data, .data, .data, .data, .sentinel, .sentinel, .pinned], laidTests := true, laidLooks := .later }
def DataFoldsCardSaid : Prop := Claim7.holds Tryz.pinned (.plain (OpenSpec.ofChange dataFoldsSpec)) dataFoldsCard

/-- THE TIED CARD OF 'toponymlaw15.ConfCut'. -/
def confCutCard : Claim7 := { stood := { row := confCutRow, standIns := [], harness := (true, "7c5cd4114c70bfe4ff43d01138ebc072c18398d2880d8d2e2d9d64483326c34b"), looks := true }, kinds := [], alts := [], laidByText := true, laidKinds := [.data, .data, .data, .data, .sentinel, .sentinel, .pinned], laidTests := true, laidLooks := .later }
def ConfCutCardSaid : Prop := Claim7.holds Tryz.pinned (.plain (OpenSpec.ofChange confCutSpec)) confCutCard

/-- THE TIED CARD OF 'toponymlaw9.LoadText'. -/
def loadTextCard : Claim7 := { stood := { row := loadTextRow, standIns := [], harness := (true, "7c5cd4114c70bfe4ff43d01138ebc072c18398d2880d8d2e2d9d64483326c34b"), looks := true }, kinds := [], alts := [], laidByText := true, laidKinds := [.data, .data, .data, .data, .sentinel, .sentinel, .pinned, .pinned], laidTests := true, laidLooks := .later }
def LoadTextCardSaid : Prop := Claim7.holds Tryz.pinned (.plain (OpenSpec.ofChange loadTextSpec)) loadTextCard

/-- THE TIED CARD OF 'toponymlaw9.LoadInclude'. -/
def loadIncludeCard : Claim7 := { stood := { row := loadIncludeRow, standIns := [], harness := (true, "7c5cd4114c70bfe4ff43d01138ebc072c18398d2880d8d2e2d9d64483326c34b"), looks := true }, kinds := [], alts := [], laidByText := true, laidKinds := [.data, .data, .data, .data, .sentinel, .sentinel, .pinned, .pinned], laidTests := true, laidLooks := .later }
def LoadIncludeCardSaid : Prop := Claim7.holds Tryz.pinned (.plain (OpenSpec.ofChange loadIncludeSpec)) loadIncludeCard

/-- THE TIED CARD OF 'toponymlaw9.LoadWhere'. -/
def loadWhereCard : Claim7 := { stood := { row := loadWhereRow, standIns := [], harness := (true, "7c5cd4114c70bfe4ff43d01138ebc072c18398d2880d8d2e2d9d64483326c34b"), looks := true }, kinds := [], alts := [], laidByText := true, laidKinds := [.data, .data, .data, .data, .sentinel, .sentinel, .pinned, .pinned], laidTests := true, laidLooks := .later }
def LoadWhereCardSaid : Prop := Claim7.holds Tryz.pinned (.plain (OpenSpec.ofChange loadWhereSpec)) loadWhereCard

/-- THE TIED CARD OF 'toponymlaw9.LoadDeep'. -/
def loadDeepCard : Claim7 := { stood := { row := loadDeepRow, standIns := [], harness := (true, "7c5cd4114c70bfe4ff43d01138ebc072c18398d2880d8d2e2d9d64483326c34b"), looks := true }, kinds := [], alts := [], laidByText := true, laidKinds := [.data, .data, .data, .data, .sentinel, .sentinel, .pinned, .pinned], laidTests := true, laidLooks := .later }
def LoadDeepCardSaid : Prop := Claim7.holds Tryz.pinned (.plain (OpenSpec.ofChange loadDeepSpec)) loadDeepCard

/-- THE SECOND FORM's CARD OF 'toponymlaw10.PrintTurned'. -/
def printTurnedUptoCard : Claim7 := { stood := { row := printTurnedUptoRow, standIns := [], harness := (true, "7c5cd4114c70bfe4ff43d01138ebc072c18398d2880d8d2e2d9d64483326c34b"), looks := true }, kinds := [], alts := [], laidByText := true, laidKinds := [.data, .data, .data], laidTests := true, laidLooks := .later }
def PrintTurnedUptoCardSaid : Prop := Claim7.holds Tryz.pinned (.plain (OpenSpec.upto printTurnedSpec)) printTurnedUptoCard

/-- THE SECOND FORM's CARD OF 'toponymlaw10.PrintShort'. -/
def printShortUptoCard : Claim7 := { stood := { row := printShortUptoRow, standIns := [], harness := (true, "7c5cd4114c70bfe4ff43d01138ebc072c18398d2880d8d2e2d9d64483326c34b"), looks := true }, kinds := [], alts := [], laidByText := true, laidKinds := [.data, .data, .data], laidTests := true, laidLooks := .later }
def PrintShortUptoCardSaid : Prop := Claim7.holds Tryz.pinned (.plain (OpenSpec.upto printShortSpec)) printShortUptoCard

/-- THE SECOND FORM's CARD OF 'toponymlaw4.DataAny'. -/
def dataAnyUptoCard : Claim7 := { stood := { row := dataAnyUptoRow, standIns := [], harness := (true, "7c5cd4114c70bfe4ff43d01138ebc072c18398d2880d8d2e2d9d64483326c34b"), looks := true }, kinds := [], alts := [], laidByText := true, laidKinds := [.data, .data, .data, .data, .sentinel, .sentinel, .pinned], laidTests := true, laidLooks := .later }
def DataAnyUptoCardSaid : Prop := Claim7.holds Tryz.pinned (.plain (OpenSpec.upto dataAnySpec)) dataAnyUptoCard

/-- THE SECOND FORM's CARD OF 'toponymlaw4.DataTwo'. -/
def dataTwoUptoCard : Claim7 := { stood := { row := dataTwoUptoRow, standIns := [], harness := (true, "7c5cd4114c70bfe4ff43d01138ebc072c18398d2880d8d2e2d9d64483326c34b"), looks := true }, kinds := [], alts := [], laidByText := true, laidKinds := [.data, .data, .data, .data, .sentinel, .sentinel, .pinned], laidTests := true, laidLooks := .later }
def DataTwoUptoCardSaid : Prop := Claim7.holds Tryz.pinned (.plain (OpenSpec.upto dataTwoSpec)) dataTwoUptoCard

/-- THE SECOND FORM's CARD OF 'toponymlaw4.DataBack'. -/
def dataBackUptoCard : Claim7 := { stood := { row := dataBackUptoRow, standIns := [], harness := (true, "7c5cd4114c70bfe4ff43d01138ebc072c18398d2880d8d2e2d9d64483326c34b"), looks := true }, kinds := [], alts := [], laidByText := true, laidKinds := [.data, .data, .data, .data, .sentinel, .sentinel, .pinned], laidTests := true, laidLooks := .later }
def DataBackUptoCardSaid : Prop := Claim7.holds Tryz.pinned (.plain (OpenSpec.upto dataBackSpec)) dataBackUptoCard

/-- THE SECOND FORM's CARD OF 'toponymlaw4.DataFolds'. -/
def dataFoldsUptoCard : Claim7 := { stood := { row := dataFoldsUptoRow, standIns := [], harness := (true, "7c5cd4114c70bfe4ff43d01138ebc072c18398d2880d8d2e2d9d64483326c34b"), looks := true }, kinds := [], alts := [], laidByText := true, laidKinds := [.data, .data, .data, .data, .sentinel, .sentinel, .pinned], laidTests := true, laidLooks := .later }
def DataFoldsUptoCardSaid : Prop := Claim7.holds Tryz.pinned (.plain (OpenSpec.upto dataFoldsSpec)) dataFoldsUptoCard

/-- THE SECOND FORM's CARD OF 'toponymlaw15.ConfCut'. -/
def confCutUptoCard : Claim7 := { stood := { row := confCutUptoRow, standIns := [], harness := (true, "7c5cd4114c70bfe4ff43d01138ebc072c18398d2880d8d2e2d9d64483326c34b"), looks := true }, kinds := [], alts := [], laidByText := true, laidKinds := [.data, .data, .data, .data, .sentinel, .sentinel, .pinned], laidTests := true, laidLooks := .later }
def ConfCutUptoCardSaid : Prop := Claim7.holds Tryz.pinned (.plain (OpenSpec.upto confCutSpec)) confCutUptoCard

/-- THE SECOND FORM's CARD OF 'toponymlaw9.LoadText'. -/
def loadTextUptoCard : Claim7 := { stood := { row := loadTextUptoRow, standIns := [], harness := (true, "7c5cd4114c70bfe4ff43d01138ebc072c18398d2880d8d2e2d9d64483326c34b"), looks := true }, kinds := [], alts := [], laidByText := true, laidKinds := [.data, .data, .data, .data, .sentinel, .sentinel, .pinned, .pinned], laidTests := true, laidLooks := .later }
def LoadTextUptoCardSaid : Prop := Claim7.holds Tryz.pinned (.plain (OpenSpec.upto loadTextSpec)) loadTextUptoCard

/-- THE SECOND FORM's CARD OF 'toponymlaw9.LoadInclude'. -/
def loadIncludeUptoCard : Claim7 := { stood := { row := loadIncludeUptoRow, standIns := [], harness := (true, "7c5cd4114c70bfe4ff43d01138ebc072c18398d2880d8d2e2d9d64483326c34b"), looks := true }, kinds := [], alts := [], laidByText := true, laidKinds := [.data, .data, .data, .data, .sentinel, .sentinel, .pinned, .pinned], laidTests := true, laidLooks := .later }
def LoadIncludeUptoCardSaid : Prop := Claim7.holds Tryz.pinned (.plain (OpenSpec.upto loadIncludeSpec)) loadIncludeUptoCard

/-- THE SECOND FORM's CARD OF 'toponymlaw9.LoadWhere'. -/
def loadWhereUptoCard : Claim7 := { stood := { row := loadWhereUptoRow, standIns := [], harness := (true, "7c5cd4114c70bfe4ff43d01138ebc072c18398d2880d8d2e2d9d64483326c34b"), looks := true }, kinds := [], alts := [], laidByText := true, laidKinds := [.data, .data, .data, .data, .sentinel, .sentinel, .pinned, .pinned], laidTests := true, laidLooks := .later }
def LoadWhereUptoCardSaid : Prop := Claim7.holds Tryz.pinned (.plain (OpenSpec.upto loadWhereSpec)) loadWhereUptoCard

/-- THE SECOND FORM's CARD OF 'toponymlaw9.LoadDeep'. -/
def loadDeepUptoCard : Claim7 := { stood := { row := loadDeepUptoRow, standIns := [], harness := (true, "7c5cd4114c70bfe4ff43d01138ebc072c18398d2880d8d2e2d9d64483326c34b"), looks := true }, kinds := [], alts := [], laidByText := true, laidKinds := [.data, .data, .data, .data, .sentinel, .sentinel, .pinned, .pinned], laidTests := true, laidLooks := .later }
def LoadDeepUptoCardSaid : Prop := Claim7.holds Tryz.pinned (.plain (OpenSpec.upto loadDeepSpec)) loadDeepUptoCard
end Rows
end Go.Proofs.YtelhpneeiebeeaaGreatDoor
