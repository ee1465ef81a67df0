/-
  DERIVED. GIVEN WITH THE SEED: THE CARDS: each row of YtfciindiplokgaaDoorRows.lean that lists a variable, with what it lists TIED to the program's text (the seventh form; the later family's looks); each row that meets fmt, with fmt's text TOLD by the authors' own Lean function (tested against real Go, not proved from fmt's source: count such statements apart). THE CARD IS WHAT COUNTS. Prove the row's statement (the work); the ties are given (YtfciindiplokgaaDoorTie.lean); close each card by the builder's one call (the guide's Derived/Test/ToyasCard.lean, 'card_holds'). Laid BY PROGRAM, IN A SANDBOX (cutbox-door.mjs). By AI agents, Wed Nov 11 2026. No macro, syntax, notation, axiom, sorry.
-/
import Derived.Test.YtfciindiplokgaaDoorRows
import GoSem.ClaimSeven
namespace Go.Proofs.YtfciindiplokgaaDoor
namespace Rows

/-- THE TIED CARD OF 'turnerylaw2.RunSays'. -/
def runSaysCard : Claim7 := { stood := { row := runSaysRow, standIns := [], harness := (true, "617cc9dcc324006255effd1eaadf5322291bb0eaaf636526336770390a0f852c"), looks := false }, kinds := [], alts := [], laidByText := true, laidKinds := [.data], laidTests := true, laidLooks := .later }
def RunSaysCardSaid : Prop := Claim7.holds Tryd.pinned (.plain (OpenSpec.ofChange runSaysSpec)) runSaysCard

/-- THE TIED CARD OF 'turnerylaw2.RunMore'. -/
def runMoreCard : Claim7 := { stood := { row := runMoreRow, standIns := [], harness := (true, "617cc9dcc324006255effd1eaadf5322291bb0eaaf636526336770390a0f852c"), looks := false }, kinds := [], alts := [], laidByText := true, laidKinds := [.data], laidTests := true, laidLooks := .later }
def RunMoreCardSaid : Prop := Claim7.holds Tryd.pinned (.plain (OpenSpec.ofChange runMoreSpec)) runMoreCard

/-- THE TIED CARD OF 'turnerylaw2.RunFlow'. -/
def runFlowCard : Claim7 := { stood := { row := runFlowRow, standIns := [], harness := (true, "617cc9dcc324006255effd1eaadf5322291bb0eaaf636526336770390a0f852c"), looks := false }, kinds := [], alts := [], laidByText := true, laidKinds := [.data], laidTests := true, laidLooks := .later }
def RunFlowCardSaid : Prop := Claim7.holds Tryd.pinned (.plain (OpenSpec.ofChange runFlowSpec)) runFlowCard

/-- THE TIED CARD OF 'turnerylaw2.RunStraight'. -/
def runStraightCard : Claim7 := { stood := { row := runStraightRow, standIns := [], harness := (true, "617cc9dcc324006255effd1eaadf5322291bb0eaaf636526336770390a0f852c"), looks := false }, kinds := [], alts := [], laidByText := true, laidKinds := [.data], laidTests := true, laidLooks := .later }
def RunStraightCardSaid : Prop := Claim7.holds Tryd.pinned (.plain (OpenSpec.ofChange runStraightSpec)) runStraightCard

/-- THE TIED CARD OF 'turnerylaw2.RunPrints'. -/
def runPrintsCard : Claim7 := { stood := { row := runPrintsRow, standIns := [], harness := (true, "617cc9dcc324006255effd1eaadf5322291bb0eaaf636526336770390a0f852c"), looks := false }, kinds := [], alts := [], laidByText := true, laidKinds := [.data], laidTests := true, laidLooks := .later }
def RunPrintsCardSaid : Prop := Claim7.holds Tryd.pinned (.plain (OpenSpec.ofChange runPrintsSpec)) runPrintsCard

/-- THE SECOND FORM's CARD OF 'turnerylaw2.RunSays'. -/
def runSaysUptoCard : Claim7 := { stood := { row := runSaysUptoRow, standIns := [], harness := (true, "617cc9dcc324006255effd1eaadf5322291bb0eaaf636526336770390a0f852c"), looks := false }, kinds := [], alts := [], laidByText := true, laidKinds := [.data], laidTests := true, laidLooks := .later }
def RunSaysUptoCardSaid : Prop := Claim7.holds Tryd.pinned (.plain (OpenSpec.upto runSaysSpec)) runSaysUptoCard

/-- THE SECOND FORM's CARD OF 'turnerylaw2.RunMore'. -/
def runMoreUptoCard : Claim7 := { stood := { row := runMoreUptoRow, standIns := [], harness := (true, "617cc9dcc324006255effd1eaadf5322291bb0eaaf636526336770390a0f852c"), looks := false }, kinds := [], alts := [], laidByText := true, laidKinds := [.data], laidTests := true, laidLooks := .later }
def RunMoreUptoCardSaid : Prop := Claim7.holds Tryd.pinned (.plain (OpenSpec.upto runMoreSpec)) runMoreUptoCard

/-- THE SECOND FORM's CARD OF 'turnerylaw2.RunFlow'. -/
def runFlowUptoCard : Claim7 := { stood := { row := runFlowUptoRow, standIns := [], harness := (true, "617cc9dcc324006255effd1eaadf5322291bb0eaaf636526336770390a0f852c"), looks := false }, kinds := [], alts := [], laidByText := true, laidKinds := [.data], laidTests := true, laidLooks := .later }
def RunFlowUptoCardSaid : Prop := Claim7.holds Tryd.pinned (.plain (OpenSpec.upto runFlowSpec)) runFlowUptoCard

/-- THE SECOND FORM's CARD OF 'turnerylaw2.RunStraight'. -/
def runStraightUptoCard : Claim7 := { stood := { row := runStraightUptoRow, standIns := [], harness := (true, "617cc9dcc324006255effd1eaadf5322291bb0eaaf636526336770390a0f852c"), looks := false }, kinds := [], alts := [], laidByText := true, laidKinds := [.data], laidTests := true, laidLooks := .later }
def RunStraightUptoCardSaid : Prop := Claim7.holds Tryd.pinned (.plain (OpenSpec.upto runStraightSpec)) runStraightUptoCard

/-- THE SECOND FORM's CARD OF 'turnerylaw2.RunPrints'. -/
def runPrintsUptoCard : Claim7 := { stood := { row := runPrintsUptoRow, standIns := [], harness := (true, "617cc9dcc324006255effd1eaadf5322291bb0eaaf636526336770390a0f852c"), looks := false }, kinds := [], alts := [], laidByText := true, laidKinds := [.data], laidTests := true, laidLooks := .later }
def RunPrintsUptoCardSaid : Prop := Claim7.holds Tryd.pinned (.plain (OpenSpec.upto runPrintsSpec)) runPrintsUptoCard
end Rows
end Go.Proofs.YtfciindiplokgaaDoor
