/-
  No cell of these rows narrows 'for every input' (looked for: loops, veiled, ifaces, maps, wideKeys, modest, calm, conditions, laid).
  DERIVED. THE GIVEN ROWS OF THIS SEAT. 4 by the template 'for every input the law returns true; each argument reads behind the call as it read before'; 0 by the template 'total and deterministic' (their statements: YtpaomhgaokonfaaTotals.lean).
  GIVEN WITH THE SEED: the statements are not yours to turn. If you find one false, say at which input.
  Laid BY PROGRAM, IN A SANDBOX (cutbox-rows.mjs): the forced cells as the released guide's own fill.sh prints them over the translation 53404b7906e56c22… (all of the seat's roots in one cut). By AI agents, Wed Nov 11 2026. No macro, syntax, notation, axiom, sorry.
-/
import Derived.Test.YtpaomhgaokonfaaChecked
import GoSem.Claim
import GoSem.ClaimJoined
import GoSem.ClaimMapViews
import Derived.JoinedTies
import Derived.KernelRfl
namespace Go.Proofs.Ytpaomhgaokonfaa
/- THE CELL 'sum', in the pinned program and in every row, IS THE sha256 OF THE DUMP (.gsa) THAT YtpaomhgaokonfaaProg.lean LOADS. Nothing in Lean hashes anything: it is a label: what it is worth is what the hold of that sum in a sandbox is worth. -/
noncomputable def Try.pinned : Pinned := { name := "ytpaomhgaokonfaa", sum := "53404b7906e56c22ce645bede247109458f6abad28bbc60c7c9e625b3158e0c5", checked := Try.checked }
namespace Rows
def none {H : Type} : Left H := { results := [], args := [] }

/-- 'turnerylaw1.TreeSays': WHATEVER THE INPUT: true; the input reads as it did. -/
def treeSaysSpec : ChangeSpec := { name := "treeSays", fn := fun _ => fun
  | [d1, d2] => { results := [.lit (.bool true)], args := [d1, d2] }
  | _ => none }
def treeSaysRow : OpenClaim := { program := "ytpaomhgaokonfaa", sum := "53404b7906e56c22ce645bede247109458f6abad28bbc60c7c9e625b3158e0c5", func := "turnery/turnerylaw1.TreeSays", spec := "treeSays", recurses := true, apart := false }
def TreeSaysSaid : Prop := treeSaysRow.holds Try.pinned (OpenSpec.ofChange treeSaysSpec)

/-- ITS FALSE NEIGHBOUR: 'it returns false'. Refute it at one input. -/
def treeSaysWrong : ChangeSpec := { name := "treeSays", fn := fun _ => fun
  | [d1, d2] => { results := [.lit (.bool false)], args := [d1, d2] }
  | _ => none }
def TreeSaysWrongFalsely : Prop := treeSaysRow.holds Try.pinned (OpenSpec.ofChange treeSaysWrong)

/-- 'turnerylaw1.TreeAlike': WHATEVER THE INPUT: true; the input reads as it did. -/
def treeAlikeSpec : ChangeSpec := { name := "treeAlike", fn := fun _ => fun
  | [d1, d2] => { results := [.lit (.bool true)], args := [d1, d2] }
  | _ => none }
def treeAlikeRow : OpenClaim := { program := "ytpaomhgaokonfaa", sum := "53404b7906e56c22ce645bede247109458f6abad28bbc60c7c9e625b3158e0c5", func := "turnery/turnerylaw1.TreeAlike", spec := "treeAlike", unfollowed := true, recurses := true, apart := false }
def TreeAlikeSaid : Prop := treeAlikeRow.holds Try.pinned (OpenSpec.ofChange treeAlikeSpec)

/-- ITS FALSE NEIGHBOUR: 'it returns false'. Refute it at one input. -/
def treeAlikeWrong : ChangeSpec := { name := "treeAlike", fn := fun _ => fun
  | [d1, d2] => { results := [.lit (.bool false)], args := [d1, d2] }
  | _ => none }
def TreeAlikeWrongFalsely : Prop := treeAlikeRow.holds Try.pinned (OpenSpec.ofChange treeAlikeWrong)

/-- 'turnerylaw1.TreePart': WHATEVER THE INPUT: true; the input reads as it did. -/
def treePartSpec : ChangeSpec := { name := "treePart", fn := fun _ => fun
  | [d1, d2, d3] => { results := [.lit (.bool true)], args := [d1, d2, d3] }
  | _ => none }
def treePartRow : OpenClaim := { program := "ytpaomhgaokonfaa", sum := "53404b7906e56c22ce645bede247109458f6abad28bbc60c7c9e625b3158e0c5", func := "turnery/turnerylaw1.TreePart", spec := "treePart", unfollowed := true, recurses := true, apart := false }
def TreePartSaid : Prop := treePartRow.holds Try.pinned (OpenSpec.ofChange treePartSpec)

/-- ITS FALSE NEIGHBOUR: 'it returns false'. Refute it at one input. -/
def treePartWrong : ChangeSpec := { name := "treePart", fn := fun _ => fun
  | [d1, d2, d3] => { results := [.lit (.bool false)], args := [d1, d2, d3] }
  | _ => none }
def TreePartWrongFalsely : Prop := treePartRow.holds Try.pinned (OpenSpec.ofChange treePartWrong)

/-- 'turnerylaw1.TreePlaces': WHATEVER THE INPUT: true; the input reads as it did. -/
def treePlacesSpec : ChangeSpec := { name := "treePlaces", fn := fun _ => fun
  | [d1, d2] => { results := [.lit (.bool true)], args := [d1, d2] }
  | _ => none }
def treePlacesRow : OpenClaim := { program := "ytpaomhgaokonfaa", sum := "53404b7906e56c22ce645bede247109458f6abad28bbc60c7c9e625b3158e0c5", func := "turnery/turnerylaw1.TreePlaces", spec := "treePlaces", unfollowed := true, recurses := true, apart := false }
def TreePlacesSaid : Prop := treePlacesRow.holds Try.pinned (OpenSpec.ofChange treePlacesSpec)

/-- ITS FALSE NEIGHBOUR: 'it returns false'. Refute it at one input. -/
def treePlacesWrong : ChangeSpec := { name := "treePlaces", fn := fun _ => fun
  | [d1, d2] => { results := [.lit (.bool false)], args := [d1, d2] }
  | _ => none }
def TreePlacesWrongFalsely : Prop := treePlacesRow.holds Try.pinned (OpenSpec.ofChange treePlacesWrong)

/- THE SECOND FORM. 'bulk': how many values and letters a reading holds, each counted each time it is reached (what is shared counts as often as it is met; a slice's spare places count too). A statement '..UptoSaid' is the law's where the arguments, and the package variables that the reading takes, are together of bulk at most 1048576: NARROWER than '..Said'. Prove '..Said' where nothing that the law and all that it calls make is longer than what came in: it says more and counts as full. Else prove '..UptoSaid'. A law counts once. -/
mutual
def uptoBulk {H : Type} : DataW H → Nat
  | .lit (.string bytes) => bytes.length + 1
  | .lit _ => 1
  | .nil => 1
  | .ptr d => uptoBulk d + 1
  | .slice elems spare => uptoBulkAll elems + uptoBulkAll spare + 1
  | .agg parts => uptoBulkAll parts + 1
  | .iface _ d => uptoBulk d + 1
  | .map entries => uptoBulkEntries entries + 1
  | .held _ => 1
def uptoBulkAll {H : Type} : List (DataW H) → Nat
  | [] => 0
  | d :: r => uptoBulk d + uptoBulkAll r
def uptoBulkEntries {H : Type} : List (Lit × DataW H) → Nat
  | [] => 0
  | x :: r => uptoBulkEntry x + uptoBulkEntries r
def uptoBulkEntry {H : Type} : Lit × DataW H → Nat
  | (.string bytes, d) => bytes.length + uptoBulk d + 1
  | (_, d) => uptoBulk d + 1
 end
def uptoSmall : (H : Type) → List (DataW H) → Bool := fun _ ds => decide (uptoBulkAll ds ≤ 1048576)
def OpenSpec.upto (s : _root_.Go.ChangeSpec) : _root_.Go.OpenSpec := { _root_.Go.OpenSpec.ofChange s with cond := some uptoSmall }

/-- 'turnerylaw1.TreeSays', WHERE WHAT IT READS IS OF BULK AT MOST 1048576: true; the input reads as it did. -/
def treeSaysUptoRow : OpenClaim := { program := "ytpaomhgaokonfaa", sum := "53404b7906e56c22ce645bede247109458f6abad28bbc60c7c9e625b3158e0c5", func := "turnery/turnerylaw1.TreeSays", spec := "treeSays", recurses := true, apart := false, narrowed := true }
def TreeSaysUptoSaid : Prop := treeSaysUptoRow.holds Try.pinned (OpenSpec.upto treeSaysSpec)

/-- 'turnerylaw1.TreeAlike', WHERE WHAT IT READS IS OF BULK AT MOST 1048576: true; the input reads as it did. -/
def treeAlikeUptoRow : OpenClaim := { program := "ytpaomhgaokonfaa", sum := "53404b7906e56c22ce645bede247109458f6abad28bbc60c7c9e625b3158e0c5", func := "turnery/turnerylaw1.TreeAlike", spec := "treeAlike", unfollowed := true, recurses := true, apart := false, narrowed := true }
def TreeAlikeUptoSaid : Prop := treeAlikeUptoRow.holds Try.pinned (OpenSpec.upto treeAlikeSpec)

/-- 'turnerylaw1.TreePart', WHERE WHAT IT READS IS OF BULK AT MOST 1048576: true; the input reads as it did. -/
def treePartUptoRow : OpenClaim := { program := "ytpaomhgaokonfaa", sum := "53404b7906e56c22ce645bede247109458f6abad28bbc60c7c9e625b3158e0c5", func := "turnery/turnerylaw1.TreePart", spec := "treePart", unfollowed := true, recurses := true, apart := false, narrowed := true }
def TreePartUptoSaid : Prop := treePartUptoRow.holds Try.pinned (OpenSpec.upto treePartSpec)

/-- 'turnerylaw1.TreePlaces', WHERE WHAT IT READS IS OF BULK AT MOST 1048576: true; the input reads as it did. -/
def treePlacesUptoRow : OpenClaim := { program := "ytpaomhgaokonfaa", sum := "53404b7906e56c22ce645bede247109458f6abad28bbc60c7c9e625b3158e0c5", func := "turnery/turnerylaw1.TreePlaces", spec := "treePlaces", unfollowed := true, recurses := true, apart := false, narrowed := true }
def TreePlacesUptoSaid : Prop := treePlacesUptoRow.holds Try.pinned (OpenSpec.upto treePlacesSpec)

end Rows
end Go.Proofs.Ytpaomhgaokonfaa
