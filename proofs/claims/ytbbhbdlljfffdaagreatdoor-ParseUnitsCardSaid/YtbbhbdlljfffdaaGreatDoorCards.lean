/-
  DERIVED. GIVEN WITH THE SEED: THE CARDS: each row of YtbbhbdlljfffdaaGreatDoorRows.lean that lists a variable, with what it lists TIED to the program's text (the seventh form; the later family's looks); each row that meets fmt, with fmt's text TOLD by the authors' own Lean function (tested against real Go, not proved from fmt's source: count such statements apart). THE CARD IS WHAT COUNTS. Prove the row's statement (the work); the ties are given (YtbbhbdlljfffdaaGreatDoorTie.lean); close each card by the builder's one call (the guide's Derived/Test/ToyasCard.lean, 'card_holds'). Laid BY PROGRAM, IN A SANDBOX (cutbox-door.mjs). By AI agents, Wed Nov 11 2026. No macro, syntax, notation, axiom, sorry.
-/
import Derived.Test.YtbbhbdlljfffdaaGreatDoorRows
import GoSem.ClaimSeven
namespace Go.Proofs.YtbbhbdlljfffdaaGreatDoor
namespace Rows

/-- THE TIED CARD OF 'turnerylaw1.ParseSays'. -/
def parseSaysCard : Claim7 := { stood := { row := parseSaysRow, standIns := [], harness := (true, "eebc742b7e48a71a171c7aba25dc9eb9f75513e67cc2f246f709214a1baedf71"), looks := true }, kinds := [], alts := [], laidByText := true, laidKinds := [.data, .data, .data, .handle, .sentinel, .sentinel, .data, .data, .widerDeep], laidTests := true, laidLooks := .later }
def ParseSaysCardSaid : Prop := Claim7.holds Tryz.pinned (.plain (OpenSpec.ofChange parseSaysSpec)) parseSaysCard

/-- THE TIED CARD OF 'turnerylaw1.ParseUnits'. -/
def parseUnitsCard : Claim7 := { stood := { row := parseUnitsRow, standIns := [], harness := (true, "eebc742b7e48a71a171c7aba25dc9eb9f75513e67cc2f246f709214a1baedf71"), looks := true }, kinds := [], alts := [], laidByText := true, laidKinds := [.data, .data, .data, .handle, .sentinel, .sentinel, .data, .data, .widerDeep], laidTests := true, laidLooks := .later }
def ParseUnitsCardSaid : Prop := Claim7.holds Tryz.pinned (.plain (OpenSpec.ofChange parseUnitsSpec)) parseUnitsCard

/-- THE TIED CARD OF 'turnerylaw1.ParseFits'. -/
def parseFitsCard : Claim7 := { stood := { row := parseFitsRow, standIns := [], harness := (true, "eebc742b7e48a71a171c7aba25dc9eb9f75513e67cc2f246f709214a1baedf71"), looks := true }, kinds := [], alts := [], laidByText := true, laidKinds := [.data, .data, .data, .handle, .sentinel, .sentinel, .data, .data, .widerDeep], laidTests := true, laidLooks := .later }
def ParseFitsCardSaid : Prop := Claim7.holds Tryz.pinned (.plain (OpenSpec.ofChange parseFitsSpec)) parseFitsCard

/-- THE TIED CARD OF 'turnerylaw1.ParseBrackets'. -/
def parseBracketsCard : Claim7 := { stood := { row := parseBracketsRow, standIns := [], harness := (true, "eebc742b7e48a71a171c7aba25dc9eb9f75513e67cc2f246f709214a1baedf71"), looks := true }, kinds := [], alts := [], laidByText := true, laidKinds := [.data, .data, .data, .handle, .sentinel, .sentinel, .data, .data, .widerDeep], laidTests := true, laidLooks := .later }
def ParseBracketsCardSaid : Prop := Claim7.holds Tryz.pinned (.plain (OpenSpec.ofChange parseBracketsSpec)) parseBracketsCard

/-- THE TIED CARD OF 'turnerylaw1.ParseNearest'. -/
def parseNearestCard : Claim7 := { stood := { row := parseNearestRow, standIns := [], harness := (true, "eebc742b7e48a71a171c7aba25dc9eb9f75513e67cc2f246f709214a1baedf71"), looks := true }, kinds := [], alts := [], laidByText := true, laidKinds := [.data, .data, .data, .handle, .sentinel, .sentinel, .data, .data, .widerDeep], laidTests := true, laidLooks := .later }
def ParseNearestCardSaid : Prop := Claim7.holds Tryz.pinned (.plain (OpenSpec.ofChange parseNearestSpec)) parseNearestCard

/-- THE TIED CARD OF 'turnerylaw1.ScopeOwn'. -/
def scopeOwnCard : Claim7 := { stood := { row := scopeOwnRow, standIns := [], harness := (true, "eebc742b7e48a71a171c7aba25dc9eb9f75513e67cc2f246f709214a1baedf71"), looks := true }, kinds := [], alts := [], laidByText := true, laidKinds := [.data, .data, .data, .handle, .sentinel, .sentinel, .data, .data, .widerDeep], laidTests := true, laidLooks := .later }
def ScopeOwnCardSaid : Prop := Claim7.holds Tryz.pinned (.plain (OpenSpec.ofChange scopeOwnSpec)) scopeOwnCard

/-- THE TIED CARD OF 'turnerylaw1.ScopeFresh'. -/
def scopeFreshCard : Claim7 := { stood := { row := scopeFreshRow, standIns := [], harness := (true, "eebc742b7e48a71a171c7aba25dc9eb9f75513e67cc2f246f709214a1baedf71"), looks := true }, kinds := [], alts := [], laidByText := true, laidKinds := [.data, .data, .data, .handle, .sentinel, .sentinel, .data, .data, .widerDeep], laidTests := true, laidLooks := .later }
def ScopeFreshCardSaid : Prop := Claim7.holds Tryz.pinned (.plain (OpenSpec.ofChange scopeFreshSpec)) scopeFreshCard

/-- THE TIED CARD OF 'turnerylaw1.TypesKnown'. -/
def typesKnownCard : Claim7 := { stood := { row := typesKnownRow, standIns := [], harness := (true, "eebc742b7e48a71a171c7aba25dc9eb9f75513e67cc2f246f709214a1baedf71"), looks := true }, kinds := [], alts := [], laidByText := true, laidKinds := [.data, .data, .data, .handle, .sentinel, .sentinel, .data, .data, .widerDeep], laidTests := true, laidLooks := .later }
def TypesKnownCardSaid : Prop := Claim7.holds Tryz.pinned (.plain (OpenSpec.ofChange typesKnownSpec)) typesKnownCard

/-- THE TIED CARD OF 'turnerylaw1.TypesParts'. -/
def typesPartsCard : Claim7 := { stood := { row := typesPartsRow, standIns := [], harness := (true, "eebc742b7e48a71a171c7aba25dc9eb9f75513e67cc2f246f709214a1baedf71"), looks := true }, kinds := [], alts := [], laidByText := true, laidKinds := [.data, .data, .data, .handle, .sentinel, .sentinel, .data, .data, .widerDeep], laidTests := true, laidLooks := .later }
def TypesPartsCardSaid : Prop := Claim7.holds Tryz.pinned (.plain (OpenSpec.ofChange typesPartsSpec)) typesPartsCard

/-- THE TIED CARD OF 'turnerylaw1.PlaceApart'. -/
def placeApartCard : Claim7 := { stood := { row := placeApartRow, standIns := [], harness := (true, "eebc742b7e48a71a171c7aba25dc9eb9f75513e67cc2f246f709214a1baedf71"), looks := true }, kinds := [], alts := [], laidByText := true, laidKinds := [.data, .data, .data, .handle, .sentinel, .sentinel, .data, .data, .widerDeep], laidTests := true, laidLooks := .later }
def PlaceApartCardSaid : Prop := Claim7.holds Tryz.pinned (.plain (OpenSpec.ofChange placeApartSpec)) placeApartCard

/-- THE TIED CARD OF 'turnerylaw1.ConstsTwice'. -/
def constsTwiceCard : Claim7 := { stood := { row := constsTwiceRow, standIns := [], harness := (true, "eebc742b7e48a71a171c7aba25dc9eb9f75513e67cc2f246f709214a1baedf71"), looks := true }, kinds := [], alts := [], laidByText := true, laidKinds := [.data, .data, .data, .handle, .sentinel, .sentinel, .data, .data, .widerDeep], laidTests := true, laidLooks := .later }
def ConstsTwiceCardSaid : Prop := Claim7.holds Tryz.pinned (.plain (OpenSpec.ofChange constsTwiceSpec)) constsTwiceCard

/-- THE TIED CARD OF 'turnerylaw1.ConstsTypes'. -/
def constsTypesCard : Claim7 := { stood := { row := constsTypesRow, standIns := [], harness := (true, "eebc742b7e48a71a171c7aba25dc9eb9f75513e67cc2f246f709214a1baedf71"), looks := true }, kinds := [], alts := [], laidByText := true, laidKinds := [.data, .data, .data, .handle, .sentinel, .sentinel, .data, .data, .widerDeep], laidTests := true, laidLooks := .later }
def ConstsTypesCardSaid : Prop := Claim7.holds Tryz.pinned (.plain (OpenSpec.ofChange constsTypesSpec)) constsTypesCard

/-- THE SECOND FORM's CARD OF 'turnerylaw1.ParseSays'. -/
def parseSaysUptoCard : Claim7 := { stood := { row := parseSaysUptoRow, standIns := [], harness := (true, "eebc742b7e48a71a171c7aba25dc9eb9f75513e67cc2f246f709214a1baedf71"), looks := true }, kinds := [], alts := [], laidByText := true, laidKinds := [.data, .data, .data, .handle, .sentinel, .sentinel, .data, .data, .widerDeep], laidTests := true, laidLooks := .later }
def ParseSaysUptoCardSaid : Prop := Claim7.holds Tryz.pinned (.plain (OpenSpec.upto parseSaysSpec)) parseSaysUptoCard

/-- THE SECOND FORM's CARD OF 'turnerylaw1.ParseUnits'. -/
def parseUnitsUptoCard : Claim7 := { stood := { row := parseUnitsUptoRow, standIns := [], harness := (true, "eebc742b7e48a71a171c7aba25dc9eb9f75513e67cc2f246f709214a1baedf71"), looks := true }, kinds := [], alts := [], laidByText := true, laidKinds := [.data, .data, .data, .handle, .sentinel, .sentinel, .data, .data, .widerDeep], laidTests := true, laidLooks := .later }
def ParseUnitsUptoCardSaid : Prop := Claim7.holds Tryz.pinned (.plain (OpenSpec.upto parseUnitsSpec)) parseUnitsUptoCard

/-- THE SECOND FORM's CARD OF 'turnerylaw1.ParseFits'. -/
def parseFitsUptoCard : Claim7 := { stood := { row := parseFitsUptoRow, standIns := [], harness := (true, "eebc742b7e48a71a171c7aba25dc9eb9f75513e67cc2f246f709214a1baedf71"), looks := true }, kinds := [], alts := [], laidByText := true, laidKinds := [.data, .data, .data, .handle, .sentinel, .sentinel, .data, .data, .widerDeep], laidTests := true, laidLooks := .later }
def ParseFitsUptoCardSaid : Prop := Claim7.holds Tryz.pinned (.plain (OpenSpec.upto parseFitsSpec)) parseFitsUptoCard

/-- THE SECOND FORM's CARD OF 'turnerylaw1.ParseBrackets'. -/
def parseBracketsUptoCard : Claim7 := { stood := { row := parseBracketsUptoRow, standIns := [], harness := (true, "eebc742b7e48a71a171c7aba25dc9eb9f75513e67cc2f246f709214a1baedf71"), looks := true }, kinds := [], alts := [], laidByText := true, laidKinds := [.data, .data, .data, .handle, .sentinel, .sentinel, .data, .data, .widerDeep], laidTests := true, laidLooks := .later }
def ParseBracketsUptoCardSaid : Prop := Claim7.holds Tryz.pinned (.plain (OpenSpec.upto parseBracketsSpec)) parseBracketsUptoCard

/-- THE SECOND FORM's CARD OF 'turnerylaw1.ParseNearest'. -/
def parseNearestUptoCard : Claim7 := { stood := { row := parseNearestUptoRow, standIns := [], harness := (true, "eebc742b7e48a71a171c7aba25dc9eb9f75513e67cc2f246f709214a1baedf71"), looks := true }, kinds := [], alts := [], laidByText := true, laidKinds := [.data, .data, .data, .handle, .sentinel, .sentinel, .data, .data, .widerDeep], laidTests := true, laidLooks := .later }
def ParseNearestUptoCardSaid : Prop := Claim7.holds Tryz.pinned (.plain (OpenSpec.upto parseNearestSpec)) parseNearestUptoCard

/-- THE SECOND FORM's CARD OF 'turnerylaw1.ScopeOwn'. -/
def scopeOwnUptoCard : Claim7 := { stood := { row := scopeOwnUptoRow, standIns := [], harness := (true, "eebc742b7e48a71a171c7aba25dc9eb9f75513e67cc2f246f709214a1baedf71"), looks := true }, kinds := [], alts := [], laidByText := true, laidKinds := [.data, .data, .data, .handle, .sentinel, .sentinel, .data, .data, .widerDeep], laidTests := true, laidLooks := .later }
def ScopeOwnUptoCardSaid : Prop := Claim7.holds Tryz.pinned (.plain (OpenSpec.upto scopeOwnSpec)) scopeOwnUptoCard

/-- THE SECOND FORM's CARD OF 'turnerylaw1.ScopeFresh'. -/
def scopeFreshUptoCard : Claim7 := { stood := { row := scopeFreshUptoRow, standIns := [], harness := (true, "eebc742b7e48a71a171c7aba25dc9eb9f75513e67cc2f246f709214a1baedf71"), looks := true }, kinds := [], alts := [], laidByText := true, laidKinds := [.data, .data, .data, .handle, .sentinel, .sentinel, .data, .data, .widerDeep], laidTests := true, laidLooks := .later }
def ScopeFreshUptoCardSaid : Prop := Claim7.holds Tryz.pinned (.plain (OpenSpec.upto scopeFreshSpec)) scopeFreshUptoCard

/-- THE SECOND FORM's CARD OF 'turnerylaw1.TypesKnown'. -/
def typesKnownUptoCard : Claim7 := { stood := { row := typesKnownUptoRow, standIns := [], harness := (true, "eebc742b7e48a71a171c7aba25dc9eb9f75513e67cc2f246f709214a1baedf71"), looks := true }, kinds := [], alts := [], laidByText := true, laidKinds := [.data, .data, .data, .handle, .sentinel, .sentinel, .data, .data, .widerDeep], laidTests := true, laidLooks := .later }
def TypesKnownUptoCardSaid : Prop := Claim7.holds Tryz.pinned (.plain (OpenSpec.upto typesKnownSpec)) typesKnownUptoCard

/-- THE SECOND FORM's CARD OF 'turnerylaw1.TypesParts'. -/
def typesPartsUptoCard : Claim7 := { stood := { row := typesPartsUptoRow, standIns := [], harness := (true, "eebc742b7e48a71a171c7aba25dc9eb9f75513e67cc2f246f709214a1baedf71"), looks := true }, kinds := [], alts := [], laidByText := true, laidKinds := [.data, .data, .data, .handle, .sentinel, .sentinel, .data, .data, .widerDeep], laidTests := true, laidLooks := .later }
def TypesPartsUptoCardSaid : Prop := Claim7.holds Tryz.pinned (.plain (OpenSpec.upto typesPartsSpec)) typesPartsUptoCard

/-- THE SECOND FORM's CARD OF 'turnerylaw1.PlaceApart'. -/
def placeApartUptoCard : Claim7 := { stood := { row := placeApartUptoRow, standIns := [], harness := (true, "eebc742b7e48a71a171c7aba25dc9eb9f75513e67cc2f246f709214a1baedf71"), looks := true }, kinds := [], alts := [], laidByText := true, laidKinds := [.data, .data, .data, .handle, .sentinel, .sentinel, .data, .data, .widerDeep], laidTests := true, laidLooks := .later }
def PlaceApartUptoCardSaid : Prop := Claim7.holds Tryz.pinned (.plain (OpenSpec.upto placeApartSpec)) placeApartUptoCard

/-- THE SECOND FORM's CARD OF 'turnerylaw1.ConstsTwice'. -/
def constsTwiceUptoCard : Claim7 := { stood := { row := constsTwiceUptoRow, standIns := [], harness := (true, "eebc742b7e48a71a171c7aba25dc9eb9f75513e67cc2f246f709214a1baedf71"), looks := true }, kinds := [], alts := [], laidByText := true, laidKinds := [.data, .data, .data, .handle, .sentinel, .sentinel, .data, .data, .widerDeep], laidTests := true, laidLooks := .later }
def ConstsTwiceUptoCardSaid : Prop := Claim7.holds Tryz.pinned (.plain (OpenSpec.upto constsTwiceSpec)) constsTwiceUptoCard

/-- THE SECOND FORM's CARD OF 'turnerylaw1.ConstsTypes'. -/
def constsTypesUptoCard : Claim7 := { stood := { row := constsTypesUptoRow, standIns := [], harness := (true, "eebc742b7e48a71a171c7aba25dc9eb9f75513e67cc2f246f709214a1baedf71"), looks := true }, kinds := [], alts := [], laidByText := true, laidKinds := [.data, .data, .data, .handle, .sentinel, .sentinel, .data, .data, .widerDeep], laidTests := true, laidLooks := .later }
def ConstsTypesUptoCardSaid : Prop := Claim7.holds Tryz.pinned (.plain (OpenSpec.upto constsTypesSpec)) constsTypesUptoCard
end Rows
end Go.Proofs.YtbbhbdlljfffdaaGreatDoor
