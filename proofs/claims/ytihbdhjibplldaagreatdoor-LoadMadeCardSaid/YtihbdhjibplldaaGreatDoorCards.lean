/-
  DERIVED. GIVEN WITH THE SEED: THE CARDS: each row of YtihbdhjibplldaaGreatDoorRows.lean that lists a variable, with what it lists TIED to the program's text (the seventh form; the later family's looks); each row that meets fmt, with fmt's text TOLD by the authors' own Lean function (tested against real Go, not proved from fmt's source: count such statements apart). THE CARD IS WHAT COUNTS. Prove the row's statement (the work); the ties are given (YtihbdhjibplldaaGreatDoorTie.lean); close each card by the builder's one call (the guide's Derived/Test/ToyasCard.lean, 'card_holds'). Laid BY PROGRAM, IN A SANDBOX (cutbox-door.mjs). By AI agents, Wed Nov 11 2026. No macro, syntax, notation, axiom, sorry.
-/
import Derived.Test.YtihbdhjibplldaaGreatDoorRows
import GoSem.ClaimSeven
namespace Go.Proofs.YtihbdhjibplldaaGreatDoor
namespace Rows

/-- THE TIED CARD OF 'toponymlaw9.LoadText'. -/
def loadTextCard : Claim7 := { stood := { row := loadTextRow, standIns := [], harness := (true, "6513f1ace1fb295c033614e606a78cd591da86b0133b3fe033d482bb85364aa2"), looks := true }, kinds := [], alts := [], laidByText := true, laidKinds := [.data, .data, .data, .data, .sentinel, .sentinel, .pinned, .pinned], laidTests := true, laidLooks := .later }
def LoadTextCardSaid : Prop := Claim7.holds Tryz.pinned (.plain (OpenSpec.ofChange loadTextSpec)) loadTextCard

/-- THE TIED CARD OF 'toponymlaw9.LoadInclude'. -/
def loadIncludeCard : Claim7 := { stood := { row := loadIncludeRow, standIns := [], harness := (true, "6513f1ace1fb295c033614e606a78cd591da86b0133b3fe033d482bb85364aa2"), looks := true }, kinds := [], alts := [], laidByText := true, laidKinds := [.data, .data, .data, .data, .sentinel, .sentinel, .pinned, .pinned], laidTests := true, laidLooks := .later }
def LoadIncludeCardSaid : Prop := Claim7.holds Tryz.pinned (.plain (OpenSpec.ofChange loadIncludeSpec)) loadIncludeCard

/-- THE TIED CARD OF 'toponymlaw9.LoadWhere'. -/
def loadWhereCard : Claim7 := { stood := { row := loadWhereRow, standIns := [], harness := (true, "6513f1ace1fb295c033614e606a78cd591da86b0133b3fe033d482bb85364aa2"), looks := true }, kinds := [], alts := [], laidByText := true, laidKinds := [.data, .data, .data, .data, .sentinel, .sentinel, .pinned, .pinned], laidTests := true, laidLooks := .later }
def LoadWhereCardSaid : Prop := Claim7.holds Tryz.pinned (.plain (OpenSpec.ofChange loadWhereSpec)) loadWhereCard

/-- THE TIED CARD OF 'toponymlaw9.LoadDeep'. -/
def loadDeepCard : Claim7 := { stood := { row := loadDeepRow, standIns := [], harness := (true, "6513f1ace1fb295c033614e606a78cd591da86b0133b3fe033d482bb85364aa2"), looks := true }, kinds := [], alts := [], laidByText := true, laidKinds := [.data, .data, .data, .data, .sentinel, .sentinel, .pinned, .pinned], laidTests := true, laidLooks := .later }
def LoadDeepCardSaid : Prop := Claim7.holds Tryz.pinned (.plain (OpenSpec.ofChange loadDeepSpec)) loadDeepCard

/-- THE TIED CARD OF 'toponymlaw9.LoadMade'. -/
def loadMadeCard : Claim7 := { stood := { row := loadMadeRow, standIns := [], harness := (true, "6513f1ace1fb295c033614e606a78cd591da86b0133b3fe033d482bb85364aa2"), looks := true }, kinds := [], alts := [], laidByText := true, laidKinds := [.data, .data, .data, .data, .sentinel, .sentinel, .pinned, .pinned], laidTests := true, laidLooks := .later }
def LoadMadeCardSaid : Prop := Claim7.holds Tryz.pinned (.plain (OpenSpec.ofChange loadMadeSpec)) loadMadeCard

/-- THE SECOND FORM's CARD OF 'toponymlaw9.LoadText'. -/
def loadTextUptoCard : Claim7 := { stood := { row := loadTextUptoRow, standIns := [], harness := (true, "6513f1ace1fb295c033614e606a78cd591da86b0133b3fe033d482bb85364aa2"), looks := true }, kinds := [], alts := [], laidByText := true, laidKinds := [.data, .data, .data, .data, .sentinel, .sentinel, .pinned, .pinned], laidTests := true, laidLooks := .later }
def LoadTextUptoCardSaid : Prop := Claim7.holds Tryz.pinned (.plain (OpenSpec.upto loadTextSpec)) loadTextUptoCard

/-- THE SECOND FORM's CARD OF 'toponymlaw9.LoadInclude'. -/
def loadIncludeUptoCard : Claim7 := { stood := { row := loadIncludeUptoRow, standIns := [], harness := (true, "6513f1ace1fb295c033614e606a78cd591da86b0133b3fe033d482bb85364aa2"), looks := true }, kinds := [], alts := [], laidByText := true, laidKinds := [.data, .data, .data, .data, .sentinel, .sentinel, .pinned, .pinned], laidTests := true, laidLooks := .later }
def LoadIncludeUptoCardSaid : Prop := Claim7.holds Tryz.pinned (.plain (OpenSpec.upto loadIncludeSpec)) loadIncludeUptoCard

/-- THE SECOND FORM's CARD OF 'toponymlaw9.LoadWhere'. -/
def loadWhereUptoCard : Claim7 := { stood := { row := loadWhereUptoRow, standIns := [], harness := (true, "6513f1ace1fb295c033614e606a78cd591da86b0133b3fe033d482bb85364aa2"), looks := true }, kinds := [], alts := [], laidByText := true, laidKinds := [.data, .data, .data, .data, .sentinel, .sentinel, .pinned, .pinned], laidTests := true, laidLooks := .later }
def LoadWhereUptoCardSaid : Prop := Claim7.holds Tryz.pinned (.plain (OpenSpec.upto loadWhereSpec)) loadWhereUptoCard

/-- THE SECOND FORM's CARD OF 'toponymlaw9.LoadDeep'. -/
def loadDeepUptoCard : Claim7 := { stood := { row := loadDeepUptoRow, standIns := [], harness := (true, "6513f1ace1fb295c033614e606a78cd591da86b0133b3fe033d482bb85364aa2"), looks := true }, kinds := [], alts := [], laidByText := true, laidKinds := [.data, .data, .data, .data, .sentinel, .sentinel, .pinned, .pinned], laidTests := true, laidLooks := .later }
def LoadDeepUptoCardSaid : Prop := Claim7.holds Tryz.pinned (.plain (OpenSpec.upto loadDeepSpec)) loadDeepUptoCard

/-- THE SECOND FORM's CARD OF 'toponymlaw9.LoadMade'. -/
def loadMadeUptoCard : Claim7 := { stood := { row := loadMadeUptoRow, standIns := [], harness := (true, "6513f1ace1fb295c033614e606a78cd591da86b0133b3fe033d482bb85364aa2"), looks := true }, kinds := [], alts := [], laidByText := true, laidKinds := [.data, .data, .data, .data, .sentinel, .sentinel, .pinned, .pinned], laidTests := true, laidLooks := .later }
def LoadMadeUptoCardSaid : Prop := Claim7.holds Tryz.pinned (.plain (OpenSpec.upto loadMadeSpec)) loadMadeUptoCard
end Rows
end Go.Proofs.YtihbdhjibplldaaGreatDoor
