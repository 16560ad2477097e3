/-
  DERIVED. GIVEN WITH THE SEED: THE CARDS: each row of YtanmnkbccfcagaaGreatDoorRows.lean that lists a variable, with what it lists TIED to the program's text (the seventh form; the later family's looks); each row that meets fmt, with fmt's text TOLD by the authors' own Lean function (tested against real Go, not proved from fmt's source: count such statements apart). THE CARD IS WHAT COUNTS. Prove the row's statement (the work); the ties are given (YtanmnkbccfcagaaGreatDoorTie.lean); close each card by the builder's one call (the guide's Derived/Test/ToyasCard.lean, 'card_holds'). Laid BY PROGRAM, IN A SANDBOX (cutbox-door.mjs). By AI agents, Wed Nov 11 2026. No macro, syntax, notation, axiom, sorry.
-/
import Derived.Test.YtanmnkbccfcagaaGreatDoorRows
import GoSem.ClaimSeven
namespace Go.Proofs.YtanmnkbccfcagaaGreatDoor
namespace Rows

/-- THE TIED CARD OF 'toponymlaw10.PrintTurned'. -/
def printTurnedCard : Claim7 := { stood := { row := printTurnedRow, standIns := [], harness := (true, "937b288267957e23092cd00e14e57aa08b9b75c793d11a1229044b554d54211c"), looks := true }, kinds := [], alts := [], laidByText := true, laidKinds := [.data, .data, .data], laidTests := true, laidLooks := .later }
def PrintTurnedCardSaid : Prop := Claim7.holds Tryz.pinned (.plain (OpenSpec.ofChange printTurnedSpec)) printTurnedCard

/-- THE TIED CARD OF 'toponymlaw10.PrintShort'. -/
def printShortCard : Claim7 := { stood := { row := printShortRow, standIns := [], harness := (true, "937b288267957e23092cd00e14e57aa08b9b75c793d11a1229044b554d54211c"), looks := true }, kinds := [], alts := [], laidByText := true, laidKinds := [.data, .data, .data], laidTests := true, laidLooks := .later }
def PrintShortCardSaid : Prop := Claim7.holds Tryz.pinned (.plain (OpenSpec.ofChange printShortSpec)) printShortCard

/-- THE TIED CARD OF 'toponymlaw8.GenRange'. -/
def genRangeCard : Claim7 := { stood := { row := genRangeRow, standIns := [], harness := (true, "937b288267957e23092cd00e14e57aa08b9b75c793d11a1229044b554d54211c"), looks := true }, kinds := [], alts := [], laidByText := true, laidKinds := [.data, .data, .data, .data, .sentinel, .sentinel, .pinned, .pinned], laidTests := true, laidLooks := .later }
def GenRangeCardSaid : Prop := Claim7.holds Tryz.pinned (.plain (OpenSpec.ofChange genRangeSpec)) genRangeCard

/-- THE TIED CARD OF 'toponymlaw8.GenNumbers'. -/
def genNumbersCard : Claim7 := { stood := { row := genNumbersRow, standIns := [], harness := (true, "937b288267957e23092cd00e14e57aa08b9b75c793d11a1229044b554d54211c"), looks := true }, kinds := [], alts := [], laidByText := true, laidKinds := [.data, .data, .data, .data, .sentinel, .sentinel, .pinned, .pinned], laidTests := true, laidLooks := .later }
def GenNumbersCardSaid : Prop := Claim7.holds Tryz.pinned (.plain (OpenSpec.ofChange genNumbersSpec)) genNumbersCard

/-- THE TIED CARD OF 'toponymlaw8.GenPlain'. -/
def genPlainCard : Claim7 := { stood := { row := genPlainRow, standIns := [], harness := (true, "937b288267957e23092cd00e14e57aa08b9b75c793d11a1229044b554d54211c"), looks := true }, kinds := [], alts := [], laidByText := true, laidKinds := [.data, .data, .data, .data, .sentinel, .sentinel, .pinned, .pinned], laidTests := true, laidLooks := .later }
def GenPlainCardSaid : Prop := Claim7.holds Tryz.pinned (.plain (OpenSpec.ofChange genPlainSpec)) genPlainCard

/-- THE TIED CARD OF 'toponymlaw4.DataAny'. -/
def dataAnyCard : Claim7 := { stood := { row := dataAnyRow, standIns := [], harness := (true, "937b288267957e23092cd00e14e57aa08b9b75c793d11a1229044b554d54211c"), looks := true }, kinds := [], alts := [], laidByText := true, laidKinds := [.data, .data, .data, .data, .sentinel, .sentinel, .pinned], laidTests := true, laidLooks := .later }
def DataAnyCardSaid : Prop := Claim7.holds Tryz.pinned (.plain (OpenSpec.ofChange dataAnySpec)) dataAnyCard

/-- THE TIED CARD OF 'toponymlaw4.DataTwo'. -/
def dataTwoCard : Claim7 := { stood := { row := dataTwoRow, standIns := [], harness := (true, "937b288267957e23092cd00e14e57aa08b9b75c793d11a1229044b554d54211c"), looks := true }, kinds := [], alts := [], laidByText := true, laidKinds := [.data, .data, .data, .data, .sentinel, .sentinel, .pinned], laidTests := true, laidLooks := .later }
def DataTwoCardSaid : Prop := Claim7.holds Tryz.pinned (.plain (OpenSpec.ofChange dataTwoSpec)) dataTwoCard

/-- THE TIED CARD OF 'toponymlaw4.DataBack'. -/
def dataBackCard : Claim7 := { stood := { row := dataBackRow, standIns := [], harness := (true, "937b288267957e23092cd00e14e57aa08b9b75c793d11a1229044b554d54211c"), looks := true }, kinds := [], alts := [], laidByText := true, laidKinds := [.data, .data, .data, .data, .sentinel, .sentinel, .pinned], laidTests := true, laidLooks := .later }
def DataBackCardSaid : Prop := Claim7.holds Tryz.pinned (.plain (OpenSpec.ofChange dataBackSpec)) dataBackCard

/-- THE TIED CARD OF 'toponymlaw4.DataFolds'. -/
def dataFoldsCard : Claim7 := { stood := { row := dataFoldsRow, standIns := [], harness := (true, "937b288267957e23092cd00e14e57aa08b9b75c793d11a1229044b554d54211c"), looks := true }, kinds := [], alts := [], laidByText := true, laidKinds := [.data, .data, .data, .data, .sentinel, .sentinel, .pinned], laidTests := true, laidLooks := .later }
def DataFoldsCardSaid : Prop := Claim7.holds Tryz.pinned (.plain (OpenSpec.ofChange dataFoldsSpec)) dataFoldsCard

/-- THE TIED CARD OF 'toponymlaw15.ConfCut'. -/
def confCutCard : Claim7 := { stood := { row := confCutRow, standIns := [], harness := (true, "937b288267957e23092cd00e14e57aa08b9b75c793d11a1229044b554d54211c"), looks := true }, kinds := [], alts := [], laidByText := true, laidKinds := [.data, .data, .data, .data, .sentinel, .sentinel, .pinned], laidTests := true, laidLooks := .later }
def ConfCutCardSaid : Prop := Claim7.holds Tryz.pinned (.plain (OpenSpec.ofChange confCutSpec)) confCutCard

/-- THE SECOND FORM's CARD OF 'toponymlaw10.PrintTurned'. -/
def printTurnedUptoCard : Claim7 := { stood := { row := printTurnedUptoRow, standIns := [], harness := (true, "937b288267957e23092cd00e14e57aa08b9b75c793d11a1229044b554d54211c"), looks := true }, kinds := [], alts := [], laidByText := true, laidKinds := [.data, .data, .data], laidTests := true, laidLooks := .later }
def PrintTurnedUptoCardSaid : Prop := Claim7.holds Tryz.pinned (.plain (OpenSpec.upto printTurnedSpec)) printTurnedUptoCard

/-- THE SECOND FORM's CARD OF 'toponymlaw10.PrintShort'. -/
def printShortUptoCard : Claim7 := { stood := { row := printShortUptoRow, standIns := [], harness := (true, "937b288267957e23092cd00e14e57aa08b9b75c793d11a1229044b554d54211c"), looks := true }, kinds := [], alts := [], laidByText := true, laidKinds := [.data, .data, .data], laidTests := true, laidLooks := .later }
def PrintShortUptoCardSaid : Prop := Claim7.holds Tryz.pinned (.plain (OpenSpec.upto printShortSpec)) printShortUptoCard

/-- THE SECOND FORM's CARD OF 'toponymlaw8.GenRange'. -/
def genRangeUptoCard : Claim7 := { stood := { row := genRangeUptoRow, standIns := [], harness := (true, "937b288267957e23092cd00e14e57aa08b9b75c793d11a1229044b554d54211c"), looks := true }, kinds := [], alts := [], laidByText := true, laidKinds := [.data, .data, .data, .data, .sentinel, .sentinel, .pinned, .pinned], laidTests := true, laidLooks := .later }
def GenRangeUptoCardSaid : Prop := Claim7.holds Tryz.pinned (.plain (OpenSpec.upto genRangeSpec)) genRangeUptoCard

/-- THE SECOND FORM's CARD OF 'toponymlaw8.GenNumbers'. -/
def genNumbersUptoCard : Claim7 := { stood := { row := genNumbersUptoRow, standIns := [], harness := (true, "937b288267957e23092cd00e14e57aa08b9b75c793d11a1229044b554d54211c"), looks := true }, kinds := [], alts := [], laidByText := true, laidKinds := [.data, .data, .data, .data, .sentinel, .sentinel, .pinned, .pinned], laidTests := true, laidLooks := .later }
def GenNumbersUptoCardSaid : Prop := Claim7.holds Tryz.pinned (.plain (OpenSpec.upto genNumbersSpec)) genNumbersUptoCard

/-- THE SECOND FORM's CARD OF 'toponymlaw8.GenPlain'. -/
def genPlainUptoCard : Claim7 := { stood := { row := genPlainUptoRow, standIns := [], harness := (true, "937b288267957e23092cd00e14e57aa08b9b75c793d11a1229044b554d54211c"), looks := true }, kinds := [], alts := [], laidByText := true, laidKinds := [.data, .data, .data, .data, .sentinel, .sentinel, .pinned, .pinned], laidTests := true, laidLooks := .later }
def GenPlainUptoCardSaid : Prop := Claim7.holds Tryz.pinned (.plain (OpenSpec.upto genPlainSpec)) genPlainUptoCard

/-- THE SECOND FORM's CARD OF 'toponymlaw4.DataAny'. -/
def dataAnyUptoCard : Claim7 := { stood := { row := dataAnyUptoRow, standIns := [], harness := (true, "937b288267957e23092cd00e14e57aa08b9b75c793d11a1229044b554d54211c"), looks := true }, kinds := [], alts := [], laidByText := true, laidKinds := [.data, .data, .data, .data, .sentinel, .sentinel, .pinned], laidTests := true, laidLooks := .later }
def DataAnyUptoCardSaid : Prop := Claim7.holds Tryz.pinned (.plain (OpenSpec.upto dataAnySpec)) dataAnyUptoCard

/-- THE SECOND FORM's CARD OF 'toponymlaw4.DataTwo'. -/
def dataTwoUptoCard : Claim7 := { stood := { row := dataTwoUptoRow, standIns := [], harness := (true, "937b288267957e23092cd00e14e57aa08b9b75c793d11a1229044b554d54211c"), looks := true }, kinds := [], alts := [], laidByText := true, laidKinds := [.data, .data, .data, .data, .sentinel, .sentinel, .pinned], laidTests := true, laidLooks := .later }
def DataTwoUptoCardSaid : Prop := Claim7.holds Tryz.pinned (.plain (OpenSpec.upto dataTwoSpec)) dataTwoUptoCard

/-- THE SECOND FORM's CARD OF 'toponymlaw4.DataBack'. -/
def dataBackUptoCard : Claim7 := { stood := { row := dataBackUptoRow, standIns := [], harness := (true, "937b288267957e23092cd00e14e57aa08b9b75c793d11a1229044b554d54211c"), looks := true }, kinds := [], alts := [], laidByText := true, laidKinds := [.data, .data, .data, .data, .sentinel, .sentinel, .pinned], laidTests := true, laidLooks := .later }
def DataBackUptoCardSaid : Prop := Claim7.holds Tryz.pinned (.plain (OpenSpec.upto dataBackSpec)) dataBackUptoCard

/-- THE SECOND FORM's CARD OF 'toponymlaw4.DataFolds'. -/
def dataFoldsUptoCard : Claim7 := { stood := { row := dataFoldsUptoRow, standIns := [], harness := (true, "937b288267957e23092cd00e14e57aa08b9b75c793d11a1229044b554d54211c"), looks := true }, kinds := [], alts := [], laidByText := true, laidKinds := [.data, .data, .data, .data, .sentinel, .sentinel, .pinned], laidTests := true, laidLooks := .later }
def DataFoldsUptoCardSaid : Prop := Claim7.holds Tryz.pinned (.plain (OpenSpec.upto dataFoldsSpec)) dataFoldsUptoCard

/-- THE SECOND FORM's CARD OF 'toponymlaw15.ConfCut'. -/
def confCutUptoCard : Claim7 := { stood := { row := confCutUptoRow, standIns := [], harness := (true, "937b288267957e23092cd00e14e57aa08b9b75c793d11a1229044b554d54211c"), looks := true }, kinds := [], alts := [], laidByText := true, laidKinds := [.data, .data, .data, .data, .sentinel, .sentinel, .pinned], laidTests := true, laidLooks := .later }
def ConfCutUptoCardSaid : Prop := Claim7.holds Tryz.pinned (.plain (OpenSpec.upto confCutSpec)) confCutUptoCard
end Rows
end Go.Proofs.YtanmnkbccfcagaaGreatDoor
