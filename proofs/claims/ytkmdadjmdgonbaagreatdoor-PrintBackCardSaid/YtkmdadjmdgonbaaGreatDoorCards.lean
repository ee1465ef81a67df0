/-
  DERIVED. GIVEN WITH THE SEED: THE CARDS: each row of YtkmdadjmdgonbaaGreatDoorRows.lean that lists a variable, with what it lists TIED to the program's text (the seventh form; the later family's looks); each row that meets fmt, with fmt's text TOLD by the authors' own Lean function (tested against real Go, not proved from fmt's source: count such statements apart). THE CARD IS WHAT COUNTS. Prove the row's statement (the work); the ties are given (YtkmdadjmdgonbaaGreatDoorTie.lean); close each card by the builder's one call (the guide's Derived/Test/ToyasCard.lean, 'card_holds'). Laid BY PROGRAM, IN A SANDBOX (cutbox-door.mjs). By AI agents, Wed Nov 11 2026. No macro, syntax, notation, axiom, sorry.
-/
import Derived.Test.YtkmdadjmdgonbaaGreatDoorRows
import GoSem.ClaimSeven
namespace Go.Proofs.YtkmdadjmdgonbaaGreatDoor
namespace Rows

/-- THE TIED CARD OF 'turnerylaw1.PrintSays'. -/
def printSaysCard : Claim7 := { stood := { row := printSaysRow, standIns := [], harness := (true, "ae1fee093246598853de9681a27a3c984811411068365ebb7817a76f876a957c"), looks := true }, kinds := [], alts := [], laidByText := true, laidKinds := [.data, .data, .data, .sentinel, .sentinel, .data, .data], laidTests := true, laidLooks := .later }
def PrintSaysCardSaid : Prop := Claim7.holds Tryz.pinned (.plain (OpenSpec.ofChange printSaysSpec)) printSaysCard

/-- THE TIED CARD OF 'turnerylaw1.PrintOnce'. -/
def printOnceCard : Claim7 := { stood := { row := printOnceRow, standIns := [], harness := (true, "ae1fee093246598853de9681a27a3c984811411068365ebb7817a76f876a957c"), looks := true }, kinds := [], alts := [], laidByText := true, laidKinds := [.data, .data, .data, .handle, .sentinel, .sentinel, .data, .data, .widerDeep], laidTests := true, laidLooks := .later }
def PrintOnceCardSaid : Prop := Claim7.holds Tryz.pinned (.plain (OpenSpec.ofChange printOnceSpec)) printOnceCard

/-- THE TIED CARD OF 'turnerylaw1.PrintBack'. -/
def printBackCard : Claim7 := { stood := { row := printBackRow, standIns := [], harness := (true, "ae1fee093246598853de9681a27a3c984811411068365ebb7817a76f876a957c"), looks := true }, kinds := [], alts := [], laidByText := true, laidKinds := [.data, .data, .data, .handle, .sentinel, .sentinel, .data, .data, .widerDeep], laidTests := true, laidLooks := .later }
def PrintBackCardSaid : Prop := Claim7.holds Tryz.pinned (.plain (OpenSpec.ofChange printBackSpec)) printBackCard

/-- THE SECOND FORM's CARD OF 'turnerylaw1.PrintSays'. -/
def printSaysUptoCard : Claim7 := { stood := { row := printSaysUptoRow, standIns := [], harness := (true, "ae1fee093246598853de9681a27a3c984811411068365ebb7817a76f876a957c"), looks := true }, kinds := [], alts := [], laidByText := true, laidKinds := [.data, .data, .data, .sentinel, .sentinel, .data, .data], laidTests := true, laidLooks := .later }
def PrintSaysUptoCardSaid : Prop := Claim7.holds Tryz.pinned (.plain (OpenSpec.upto printSaysSpec)) printSaysUptoCard

/-- THE SECOND FORM's CARD OF 'turnerylaw1.PrintOnce'. -/
def printOnceUptoCard : Claim7 := { stood := { row := printOnceUptoRow, standIns := [], harness := (true, "ae1fee093246598853de9681a27a3c984811411068365ebb7817a76f876a957c"), looks := true }, kinds := [], alts := [], laidByText := true, laidKinds := [.data, .data, .data, .handle, .sentinel, .sentinel, .data, .data, .widerDeep], laidTests := true, laidLooks := .later }
def PrintOnceUptoCardSaid : Prop := Claim7.holds Tryz.pinned (.plain (OpenSpec.upto printOnceSpec)) printOnceUptoCard

/-- THE SECOND FORM's CARD OF 'turnerylaw1.PrintBack'. -/
def printBackUptoCard : Claim7 := { stood := { row := printBackUptoRow, standIns := [], harness := (true, "ae1fee093246598853de9681a27a3c984811411068365ebb7817a76f876a957c"), looks := true }, kinds := [], alts := [], laidByText := true, laidKinds := [.data, .data, .data, .handle, .sentinel, .sentinel, .data, .data, .widerDeep], laidTests := true, laidLooks := .later }
def PrintBackUptoCardSaid : Prop := Claim7.holds Tryz.pinned (.plain (OpenSpec.upto printBackSpec)) printBackUptoCard
end Rows
end Go.Proofs.YtkmdadjmdgonbaaGreatDoor
