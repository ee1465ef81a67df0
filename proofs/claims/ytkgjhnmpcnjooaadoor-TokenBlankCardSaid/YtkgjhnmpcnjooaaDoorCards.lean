/-
  DERIVED. GIVEN WITH THE SEED: THE CARDS: each row of YtkgjhnmpcnjooaaDoorRows.lean that lists a variable, with what it lists TIED to the program's text (the seventh form; the later family's looks); each row that meets fmt, with fmt's text TOLD by the authors' own Lean function (tested against real Go, not proved from fmt's source: count such statements apart). THE CARD IS WHAT COUNTS. Prove the row's statement (the work); the ties are given (YtkgjhnmpcnjooaaDoorTie.lean); close each card by the builder's one call (the guide's Derived/Test/ToyasCard.lean, 'card_holds'). Laid BY PROGRAM, IN A SANDBOX (cutbox-door.mjs). By AI agents, Wed Nov 11 2026. No macro, syntax, notation, axiom, sorry.
-/
import Derived.Test.YtkgjhnmpcnjooaaDoorRows
import GoSem.ClaimSeven
namespace Go.Proofs.YtkgjhnmpcnjooaaDoor
namespace Rows

/-- THE TIED CARD OF 'turnerylaw1.TokenSays'. -/
def tokenSaysCard : Claim7 := { stood := { row := tokenSaysRow, standIns := [], harness := (true, "ca8cfcf70244ba2255d88bc71bc2b0fe16a3ef231a7fadb4d1e7c1ee617ea4ed"), looks := true }, kinds := [], alts := [], laidByText := true, laidKinds := [.data, .data, .data, .sentinel, .sentinel, .data, .data], laidTests := true, laidLooks := .later }
def TokenSaysCardSaid : Prop := Claim7.holds Tryd.pinned (.plain (OpenSpec.ofChange tokenSaysSpec)) tokenSaysCard

/-- THE TIED CARD OF 'turnerylaw1.TokenWrites'. -/
def tokenWritesCard : Claim7 := { stood := { row := tokenWritesRow, standIns := [], harness := (true, "ca8cfcf70244ba2255d88bc71bc2b0fe16a3ef231a7fadb4d1e7c1ee617ea4ed"), looks := true }, kinds := [], alts := [], laidByText := true, laidKinds := [.data, .data, .data, .sentinel, .sentinel, .data, .data], laidTests := true, laidLooks := .later }
def TokenWritesCardSaid : Prop := Claim7.holds Tryd.pinned (.plain (OpenSpec.ofChange tokenWritesSpec)) tokenWritesCard

/-- THE TIED CARD OF 'turnerylaw1.TokenBack'. -/
def tokenBackCard : Claim7 := { stood := { row := tokenBackRow, standIns := [], harness := (true, "ca8cfcf70244ba2255d88bc71bc2b0fe16a3ef231a7fadb4d1e7c1ee617ea4ed"), looks := true }, kinds := [], alts := [], laidByText := true, laidKinds := [.data, .data, .data, .sentinel, .sentinel, .data, .data], laidTests := true, laidLooks := .later }
def TokenBackCardSaid : Prop := Claim7.holds Tryd.pinned (.plain (OpenSpec.ofChange tokenBackSpec)) tokenBackCard

/-- THE TIED CARD OF 'turnerylaw1.TokenJoin'. -/
def tokenJoinCard : Claim7 := { stood := { row := tokenJoinRow, standIns := [], harness := (true, "ca8cfcf70244ba2255d88bc71bc2b0fe16a3ef231a7fadb4d1e7c1ee617ea4ed"), looks := true }, kinds := [], alts := [], laidByText := true, laidKinds := [.data, .data, .data, .sentinel, .sentinel, .data, .data], laidTests := true, laidLooks := .later }
def TokenJoinCardSaid : Prop := Claim7.holds Tryd.pinned (.plain (OpenSpec.ofChange tokenJoinSpec)) tokenJoinCard

/-- THE TIED CARD OF 'turnerylaw1.TokenBlank'. -/
def tokenBlankCard : Claim7 := { stood := { row := tokenBlankRow, standIns := [], harness := (true, "ca8cfcf70244ba2255d88bc71bc2b0fe16a3ef231a7fadb4d1e7c1ee617ea4ed"), looks := true }, kinds := [], alts := [], laidByText := true, laidKinds := [.data, .data, .data, .sentinel, .sentinel, .data, .data], laidTests := true, laidLooks := .later }
def TokenBlankCardSaid : Prop := Claim7.holds Tryd.pinned (.plain (OpenSpec.ofChange tokenBlankSpec)) tokenBlankCard

/-- THE TIED CARD OF 'turnerylaw1.TokenWhole'. -/
def tokenWholeCard : Claim7 := { stood := { row := tokenWholeRow, standIns := [], harness := (true, "ca8cfcf70244ba2255d88bc71bc2b0fe16a3ef231a7fadb4d1e7c1ee617ea4ed"), looks := true }, kinds := [], alts := [], laidByText := true, laidKinds := [.data, .data, .data, .sentinel, .sentinel, .data, .data], laidTests := true, laidLooks := .later }
def TokenWholeCardSaid : Prop := Claim7.holds Tryd.pinned (.plain (OpenSpec.ofChange tokenWholeSpec)) tokenWholeCard

/-- THE SECOND FORM's CARD OF 'turnerylaw1.TokenSays'. -/
def tokenSaysUptoCard : Claim7 := { stood := { row := tokenSaysUptoRow, standIns := [], harness := (true, "ca8cfcf70244ba2255d88bc71bc2b0fe16a3ef231a7fadb4d1e7c1ee617ea4ed"), looks := true }, kinds := [], alts := [], laidByText := true, laidKinds := [.data, .data, .data, .sentinel, .sentinel, .data, .data], laidTests := true, laidLooks := .later }
def TokenSaysUptoCardSaid : Prop := Claim7.holds Tryd.pinned (.plain (OpenSpec.upto tokenSaysSpec)) tokenSaysUptoCard

/-- THE SECOND FORM's CARD OF 'turnerylaw1.TokenWrites'. -/
def tokenWritesUptoCard : Claim7 := { stood := { row := tokenWritesUptoRow, standIns := [], harness := (true, "ca8cfcf70244ba2255d88bc71bc2b0fe16a3ef231a7fadb4d1e7c1ee617ea4ed"), looks := true }, kinds := [], alts := [], laidByText := true, laidKinds := [.data, .data, .data, .sentinel, .sentinel, .data, .data], laidTests := true, laidLooks := .later }
def TokenWritesUptoCardSaid : Prop := Claim7.holds Tryd.pinned (.plain (OpenSpec.upto tokenWritesSpec)) tokenWritesUptoCard

/-- THE SECOND FORM's CARD OF 'turnerylaw1.TokenBack'. -/
def tokenBackUptoCard : Claim7 := { stood := { row := tokenBackUptoRow, standIns := [], harness := (true, "ca8cfcf70244ba2255d88bc71bc2b0fe16a3ef231a7fadb4d1e7c1ee617ea4ed"), looks := true }, kinds := [], alts := [], laidByText := true, laidKinds := [.data, .data, .data, .sentinel, .sentinel, .data, .data], laidTests := true, laidLooks := .later }
def TokenBackUptoCardSaid : Prop := Claim7.holds Tryd.pinned (.plain (OpenSpec.upto tokenBackSpec)) tokenBackUptoCard

/-- THE SECOND FORM's CARD OF 'turnerylaw1.TokenJoin'. -/
def tokenJoinUptoCard : Claim7 := { stood := { row := tokenJoinUptoRow, standIns := [], harness := (true, "ca8cfcf70244ba2255d88bc71bc2b0fe16a3ef231a7fadb4d1e7c1ee617ea4ed"), looks := true }, kinds := [], alts := [], laidByText := true, laidKinds := [.data, .data, .data, .sentinel, .sentinel, .data, .data], laidTests := true, laidLooks := .later }
def TokenJoinUptoCardSaid : Prop := Claim7.holds Tryd.pinned (.plain (OpenSpec.upto tokenJoinSpec)) tokenJoinUptoCard

/-- THE SECOND FORM's CARD OF 'turnerylaw1.TokenBlank'. -/
def tokenBlankUptoCard : Claim7 := { stood := { row := tokenBlankUptoRow, standIns := [], harness := (true, "ca8cfcf70244ba2255d88bc71bc2b0fe16a3ef231a7fadb4d1e7c1ee617ea4ed"), looks := true }, kinds := [], alts := [], laidByText := true, laidKinds := [.data, .data, .data, .sentinel, .sentinel, .data, .data], laidTests := true, laidLooks := .later }
def TokenBlankUptoCardSaid : Prop := Claim7.holds Tryd.pinned (.plain (OpenSpec.upto tokenBlankSpec)) tokenBlankUptoCard

/-- THE SECOND FORM's CARD OF 'turnerylaw1.TokenWhole'. -/
def tokenWholeUptoCard : Claim7 := { stood := { row := tokenWholeUptoRow, standIns := [], harness := (true, "ca8cfcf70244ba2255d88bc71bc2b0fe16a3ef231a7fadb4d1e7c1ee617ea4ed"), looks := true }, kinds := [], alts := [], laidByText := true, laidKinds := [.data, .data, .data, .sentinel, .sentinel, .data, .data], laidTests := true, laidLooks := .later }
def TokenWholeUptoCardSaid : Prop := Claim7.holds Tryd.pinned (.plain (OpenSpec.upto tokenWholeSpec)) tokenWholeUptoCard
end Rows
end Go.Proofs.YtkgjhnmpcnjooaaDoor
