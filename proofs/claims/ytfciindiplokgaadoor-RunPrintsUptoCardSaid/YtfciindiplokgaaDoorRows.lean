/-
  NARROWER THAN 'FOR EVERY INPUT', by the rows' own cells (each row's printed sentence says how): RunSays: laid · RunMore: laid · RunFlow: laid · RunStraight: laid · RunPrints: laid.
  DERIVED. THE GIVEN ROWS OF THIS SEAT. 5 by the template 'for every input the law returns true; each argument reads behind the call as it read before'; 0 by the template 'total and deterministic' (their statements: YtfciindiplokgaaDoorTotals.lean).
  GIVEN WITH THE SEED: the statements are not yours to turn. If you find one false, say at which input.
  Laid BY PROGRAM, IN A SANDBOX (cutbox-rows.mjs): the forced cells as the released guide's own fill.sh prints them over the translation ff58ae34a5ba5d3a… (all of the seat's roots in one cut). By AI agents, Wed Nov 11 2026. No macro, syntax, notation, axiom, sorry.
-/
import Derived.Test.YtfciindiplokgaaDoorChecked
import GoSem.Claim
import GoSem.ClaimJoined
import GoSem.ClaimMapViews
import Derived.JoinedTies
import Derived.KernelRfl
namespace Go.Proofs.YtfciindiplokgaaDoor
/- THE CELL 'sum', in the pinned program and in every row, IS THE sha256 OF THE DUMP (.gsa) THAT YtfciindiplokgaaDoorProg.lean LOADS. Nothing in Lean hashes anything: it is a label: what it is worth is what the hold of that sum in a sandbox is worth. -/
noncomputable def Tryd.pinned : Pinned := { name := "ytfciindiplokgaadoor", sum := "ff58ae34a5ba5d3ab5b3f79b22e10a9efab78435086850f093dddaf10a721194", checked := Tryd.checked }
namespace Rows
def none {H : Type} : Left H := { results := [], args := [] }

/- WHAT THE LISTED PACKAGE-LEVEL VARIABLES READ AS WHEN THE CALL BEGINS. Each datum BY PROGRAM (the guide's laid-datum.mjs) off the statement by which the dump's own 'gosem.cut.vars' lays the variable. In a bare row this is a premise. The card (YtfciindiplokgaaDoorCards.lean) ties it to the program's text. -/
def laid_turnery_code_ways {H : Type} : DataW H := .agg [.lit (.int .i64 0), .lit (.int .i64 0), .lit (.int .i64 1), .lit (.int .i64 2)]

/-- 'turnerylaw2.RunSays': WHATEVER THE INPUT: true; the input reads as it did. -/
def runSaysSpec : ChangeSpec := { name := "runSays", fn := fun _ => fun
  | [d1, d2, d3] => { results := [.lit (.bool true)], args := [d1, d2, d3] }
  | _ => none }
def runSaysRow : OpenClaim := { program := "ytfciindiplokgaadoor", sum := "ff58ae34a5ba5d3ab5b3f79b22e10a9efab78435086850f093dddaf10a721194", func := "turnery/turnerylaw2.RunSays", spec := "runSays", unfollowed := true, recurses := true, named := ["turnery/code.ways"], apart := false, laid := [("turnery/code.ways", laid_turnery_code_ways)] }
def RunSaysSaid : Prop := runSaysRow.holds Tryd.pinned (OpenSpec.ofChange runSaysSpec)

/-- ITS FALSE NEIGHBOUR: 'it returns false'. Refute it at one input. -/
def runSaysWrong : ChangeSpec := { name := "runSays", fn := fun _ => fun
  | [d1, d2, d3] => { results := [.lit (.bool false)], args := [d1, d2, d3] }
  | _ => none }
def RunSaysWrongFalsely : Prop := runSaysRow.holds Tryd.pinned (OpenSpec.ofChange runSaysWrong)

/-- 'turnerylaw2.RunMore': WHATEVER THE INPUT: true; the input reads as it did. -/
def runMoreSpec : ChangeSpec := { name := "runMore", fn := fun _ => fun
  | [d1, d2, d3, d4] => { results := [.lit (.bool true)], args := [d1, d2, d3, d4] }
  | _ => none }
def runMoreRow : OpenClaim := { program := "ytfciindiplokgaadoor", sum := "ff58ae34a5ba5d3ab5b3f79b22e10a9efab78435086850f093dddaf10a721194", func := "turnery/turnerylaw2.RunMore", spec := "runMore", unfollowed := true, recurses := true, named := ["turnery/code.ways"], apart := false, laid := [("turnery/code.ways", laid_turnery_code_ways)] }
def RunMoreSaid : Prop := runMoreRow.holds Tryd.pinned (OpenSpec.ofChange runMoreSpec)

/-- ITS FALSE NEIGHBOUR: 'it returns false'. Refute it at one input. -/
def runMoreWrong : ChangeSpec := { name := "runMore", fn := fun _ => fun
  | [d1, d2, d3, d4] => { results := [.lit (.bool false)], args := [d1, d2, d3, d4] }
  | _ => none }
def RunMoreWrongFalsely : Prop := runMoreRow.holds Tryd.pinned (OpenSpec.ofChange runMoreWrong)

/-- 'turnerylaw2.RunFlow': WHATEVER THE INPUT: true; the input reads as it did. -/
def runFlowSpec : ChangeSpec := { name := "runFlow", fn := fun _ => fun
  | [d1, d2, d3] => { results := [.lit (.bool true)], args := [d1, d2, d3] }
  | _ => none }
def runFlowRow : OpenClaim := { program := "ytfciindiplokgaadoor", sum := "ff58ae34a5ba5d3ab5b3f79b22e10a9efab78435086850f093dddaf10a721194", func := "turnery/turnerylaw2.RunFlow", spec := "runFlow", unfollowed := true, recurses := true, named := ["turnery/code.ways"], apart := false, laid := [("turnery/code.ways", laid_turnery_code_ways)] }
def RunFlowSaid : Prop := runFlowRow.holds Tryd.pinned (OpenSpec.ofChange runFlowSpec)

/-- ITS FALSE NEIGHBOUR: 'it returns false'. Refute it at one input. -/
def runFlowWrong : ChangeSpec := { name := "runFlow", fn := fun _ => fun
  | [d1, d2, d3] => { results := [.lit (.bool false)], args := [d1, d2, d3] }
  | _ => none }
def RunFlowWrongFalsely : Prop := runFlowRow.holds Tryd.pinned (OpenSpec.ofChange runFlowWrong)

/-- 'turnerylaw2.RunStraight': WHATEVER THE INPUT: true; the input reads as it did. -/
def runStraightSpec : ChangeSpec := { name := "runStraight", fn := fun _ => fun
  | [d1, d2, d3] => { results := [.lit (.bool true)], args := [d1, d2, d3] }
  | _ => none }
def runStraightRow : OpenClaim := { program := "ytfciindiplokgaadoor", sum := "ff58ae34a5ba5d3ab5b3f79b22e10a9efab78435086850f093dddaf10a721194", func := "turnery/turnerylaw2.RunStraight", spec := "runStraight", unfollowed := true, recurses := true, named := ["turnery/code.ways"], apart := false, laid := [("turnery/code.ways", laid_turnery_code_ways)] }
def RunStraightSaid : Prop := runStraightRow.holds Tryd.pinned (OpenSpec.ofChange runStraightSpec)

/-- ITS FALSE NEIGHBOUR: 'it returns false'. Refute it at one input. -/
def runStraightWrong : ChangeSpec := { name := "runStraight", fn := fun _ => fun
  | [d1, d2, d3] => { results := [.lit (.bool false)], args := [d1, d2, d3] }
  | _ => none }
def RunStraightWrongFalsely : Prop := runStraightRow.holds Tryd.pinned (OpenSpec.ofChange runStraightWrong)

/-- 'turnerylaw2.RunPrints': WHATEVER THE INPUT: true; the input reads as it did. -/
def runPrintsSpec : ChangeSpec := { name := "runPrints", fn := fun _ => fun
  | [d1, d2, d3, d4] => { results := [.lit (.bool true)], args := [d1, d2, d3, d4] }
  | _ => none }
def runPrintsRow : OpenClaim := { program := "ytfciindiplokgaadoor", sum := "ff58ae34a5ba5d3ab5b3f79b22e10a9efab78435086850f093dddaf10a721194", func := "turnery/turnerylaw2.RunPrints", spec := "runPrints", unfollowed := true, recurses := true, named := ["turnery/code.ways"], apart := false, laid := [("turnery/code.ways", laid_turnery_code_ways)] }
def RunPrintsSaid : Prop := runPrintsRow.holds Tryd.pinned (OpenSpec.ofChange runPrintsSpec)

/-- ITS FALSE NEIGHBOUR: 'it returns false'. Refute it at one input. -/
def runPrintsWrong : ChangeSpec := { name := "runPrints", fn := fun _ => fun
  | [d1, d2, d3, d4] => { results := [.lit (.bool false)], args := [d1, d2, d3, d4] }
  | _ => none }
def RunPrintsWrongFalsely : Prop := runPrintsRow.holds Tryd.pinned (OpenSpec.ofChange runPrintsWrong)

/- THE SECOND FORM. 'bulk': how many values and letters a reading holds, each counted each time it is reached (what is shared counts as often as it is met; a slice's spare places count too). A statement '..UptoSaid' is the law's where the arguments, and the package variables that the reading takes, are together of bulk at most 1048576: NARROWER than '..Said'. Prove '..Said' where nothing that the law and all that it calls make is longer than what came in: it says more and counts as full. Else prove '..UptoSaid'. A law counts once. -/
mutual
def uptoBulk {H : Type} : DataW H → Nat
  | .lit (.string bytes) => bytes.length + 1
  | .lit _ => 1
  | .nil => 1
  | .ptr d => uptoBulk d + 1
  | .slice elems spare => uptoBulkAll elems + uptoBulkAll spare + 1
  | .agg parts => uptoBulkAll parts + 1
  | .iface _ d => uptoBulk d + 1
  | .map entries => uptoBulkEntries entries + 1
  | .held _ => 1
def uptoBulkAll {H : Type} : List (DataW H) → Nat
  | [] => 0
  | d :: r => uptoBulk d + uptoBulkAll r
def uptoBulkEntries {H : Type} : List (Lit × DataW H) → Nat
  | [] => 0
  | x :: r => uptoBulkEntry x + uptoBulkEntries r
def uptoBulkEntry {H : Type} : Lit × DataW H → Nat
  | (.string bytes, d) => bytes.length + uptoBulk d + 1
  | (_, d) => uptoBulk d + 1
 end
def uptoSmall : (H : Type) → List (DataW H) → Bool := fun _ ds => decide (uptoBulkAll ds ≤ 1048576)
def OpenSpec.upto (s : _root_.Go.ChangeSpec) : _root_.Go.OpenSpec := { _root_.Go.OpenSpec.ofChange s with cond := some uptoSmall }

/-- 'turnerylaw2.RunSays', WHERE WHAT IT READS IS OF BULK AT MOST 1048576: true; the input reads as it did. -/
def runSaysUptoRow : OpenClaim := { program := "ytfciindiplokgaadoor", sum := "ff58ae34a5ba5d3ab5b3f79b22e10a9efab78435086850f093dddaf10a721194", func := "turnery/turnerylaw2.RunSays", spec := "runSays", unfollowed := true, recurses := true, named := ["turnery/code.ways"], apart := false, laid := [("turnery/code.ways", laid_turnery_code_ways)], narrowed := true }
def RunSaysUptoSaid : Prop := runSaysUptoRow.holds Tryd.pinned (OpenSpec.upto runSaysSpec)

/-- 'turnerylaw2.RunMore', WHERE WHAT IT READS IS OF BULK AT MOST 1048576: true; the input reads as it did. -/
def runMoreUptoRow : OpenClaim := { program := "ytfciindiplokgaadoor", sum := "ff58ae34a5ba5d3ab5b3f79b22e10a9efab78435086850f093dddaf10a721194", func := "turnery/turnerylaw2.RunMore", spec := "runMore", unfollowed := true, recurses := true, named := ["turnery/code.ways"], apart := false, laid := [("turnery/code.ways", laid_turnery_code_ways)], narrowed := true }
def RunMoreUptoSaid : Prop := runMoreUptoRow.holds Tryd.pinned (OpenSpec.upto runMoreSpec)

/-- 'turnerylaw2.RunFlow', WHERE WHAT IT READS IS OF BULK AT MOST 1048576: true; the input reads as it did. -/
def runFlowUptoRow : OpenClaim := { program := "ytfciindiplokgaadoor", sum := "ff58ae34a5ba5d3ab5b3f79b22e10a9efab78435086850f093dddaf10a721194", func := "turnery/turnerylaw2.RunFlow", spec := "runFlow", unfollowed := true, recurses := true, named := ["turnery/code.ways"], apart := false, laid := [("turnery/code.ways", laid_turnery_code_ways)], narrowed := true }
def RunFlowUptoSaid : Prop := runFlowUptoRow.holds Tryd.pinned (OpenSpec.upto runFlowSpec)

/-- 'turnerylaw2.RunStraight', WHERE WHAT IT READS IS OF BULK AT MOST 1048576: true; the input reads as it did. -/
def runStraightUptoRow : OpenClaim := { program := "ytfciindiplokgaadoor", sum := "ff58ae34a5ba5d3ab5b3f79b22e10a9efab78435086850f093dddaf10a721194", func := "turnery/turnerylaw2.RunStraight", spec := "runStraight", unfollowed := true, recurses := true, named := ["turnery/code.ways"], apart := false, laid := [("turnery/code.ways", laid_turnery_code_ways)], narrowed := true }
def RunStraightUptoSaid : Prop := runStraightUptoRow.holds Tryd.pinned (OpenSpec.upto runStraightSpec)

/-- 'turnerylaw2.RunPrints', WHERE WHAT IT READS IS OF BULK AT MOST 1048576: true; the input reads as it did. -/
def runPrintsUptoRow : OpenClaim := { program := "ytfciindiplokgaadoor", sum := "ff58ae34a5ba5d3ab5b3f79b22e10a9efab78435086850f093dddaf10a721194", func := "turnery/turnerylaw2.RunPrints", spec := "runPrints", unfollowed := true, recurses := true, named := ["turnery/code.ways"], apart := false, laid := [("turnery/code.ways", laid_turnery_code_ways)], narrowed := true }
def RunPrintsUptoSaid : Prop := runPrintsUptoRow.holds Tryd.pinned (OpenSpec.upto runPrintsSpec)

end Rows
end Go.Proofs.YtfciindiplokgaaDoor
