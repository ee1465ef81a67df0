/-
  No cell of these rows narrows 'for every input' (looked for: loops, veiled, ifaces, maps, wideKeys, modest, calm, conditions, laid).
  DERIVED. THE GIVEN ROWS OF THIS SEAT. 3 by the template 'for every input the law returns true; each argument reads behind the call as it read before'; 0 by the template 'total and deterministic' (their statements: YtbhpblokoecoaaaTotals.lean).
  GIVEN WITH THE SEED: the statements are not yours to turn. If you find one false, say at which input.
  Laid BY PROGRAM, IN A SANDBOX (cutbox-rows.mjs): the forced cells as the released guide's own fill.sh prints them over the translation 51b484ea3a5ce6de… (all of the seat's roots in one cut). By AI agents, Wed Nov 11 2026. No macro, syntax, notation, axiom, sorry.
-/
import Derived.Test.YtbhpblokoecoaaaChecked
import GoSem.Claim
import GoSem.ClaimJoined
import GoSem.ClaimMapViews
import Derived.JoinedTies
import Derived.KernelRfl
namespace Go.Proofs.Ytbhpblokoecoaaa
/- THE CELL 'sum', in the pinned program and in every row, IS THE sha256 OF THE DUMP (.gsa) THAT YtbhpblokoecoaaaProg.lean LOADS. Nothing in Lean hashes anything: it is a label: what it is worth is what the hold of that sum in a sandbox is worth. -/
noncomputable def Try.pinned : Pinned := { name := "ytbhpblokoecoaaa", sum := "51b484ea3a5ce6de2bc2c487dfbaf05a173cad7733393c351cf9576a32e34d35", checked := Try.checked }
namespace Rows
def none {H : Type} : Left H := { results := [], args := [] }

/-- 'turnerylaw1.ScopeSays': WHATEVER THE INPUT: true; the input reads as it did. -/
def scopeSaysSpec : ChangeSpec := { name := "scopeSays", fn := fun _ => fun
  | [d] => { results := [.lit (.bool true)], args := [d] }
  | _ => none }
def scopeSaysRow : OpenClaim := { program := "ytbhpblokoecoaaa", sum := "51b484ea3a5ce6de2bc2c487dfbaf05a173cad7733393c351cf9576a32e34d35", func := "turnery/turnerylaw1.ScopeSays", spec := "scopeSays", unfollowed := true, recurses := true, apart := false }
def ScopeSaysSaid : Prop := scopeSaysRow.holds Try.pinned (OpenSpec.ofChange scopeSaysSpec)

/-- ITS FALSE NEIGHBOUR: 'it returns false'. Refute it at one input. -/
def scopeSaysWrong : ChangeSpec := { name := "scopeSays", fn := fun _ => fun
  | [d] => { results := [.lit (.bool false)], args := [d] }
  | _ => none }
def ScopeSaysWrongFalsely : Prop := scopeSaysRow.holds Try.pinned (OpenSpec.ofChange scopeSaysWrong)

/-- 'turnerylaw1.TypesSays': WHATEVER THE INPUT: true; the input reads as it did. -/
def typesSaysSpec : ChangeSpec := { name := "typesSays", fn := fun _ => fun
  | [d] => { results := [.lit (.bool true)], args := [d] }
  | _ => none }
def typesSaysRow : OpenClaim := { program := "ytbhpblokoecoaaa", sum := "51b484ea3a5ce6de2bc2c487dfbaf05a173cad7733393c351cf9576a32e34d35", func := "turnery/turnerylaw1.TypesSays", spec := "typesSays", unfollowed := true, recurses := true, apart := false }
def TypesSaysSaid : Prop := typesSaysRow.holds Try.pinned (OpenSpec.ofChange typesSaysSpec)

/-- ITS FALSE NEIGHBOUR: 'it returns false'. Refute it at one input. -/
def typesSaysWrong : ChangeSpec := { name := "typesSays", fn := fun _ => fun
  | [d] => { results := [.lit (.bool false)], args := [d] }
  | _ => none }
def TypesSaysWrongFalsely : Prop := typesSaysRow.holds Try.pinned (OpenSpec.ofChange typesSaysWrong)

/-- 'turnerylaw1.PlaceSays': WHATEVER THE INPUT: true; the input reads as it did. -/
def placeSaysSpec : ChangeSpec := { name := "placeSays", fn := fun _ => fun
  | [d1, d2] => { results := [.lit (.bool true)], args := [d1, d2] }
  | _ => none }
def placeSaysRow : OpenClaim := { program := "ytbhpblokoecoaaa", sum := "51b484ea3a5ce6de2bc2c487dfbaf05a173cad7733393c351cf9576a32e34d35", func := "turnery/turnerylaw1.PlaceSays", spec := "placeSays", unfollowed := true, recurses := true, apart := false }
def PlaceSaysSaid : Prop := placeSaysRow.holds Try.pinned (OpenSpec.ofChange placeSaysSpec)

/-- ITS FALSE NEIGHBOUR: 'it returns false'. Refute it at one input. -/
def placeSaysWrong : ChangeSpec := { name := "placeSays", fn := fun _ => fun
  | [d1, d2] => { results := [.lit (.bool false)], args := [d1, d2] }
  | _ => none }
def PlaceSaysWrongFalsely : Prop := placeSaysRow.holds Try.pinned (OpenSpec.ofChange placeSaysWrong)

/- THE SECOND FORM. 'bulk': how many values and letters a reading holds, each counted each time it is reached (what is shared counts as often as it is met; a slice's spare places count too). A statement '..UptoSaid' is the law's where the arguments, and the package variables that the reading takes, are together of bulk at most 1048576: NARROWER than '..Said'. Prove '..Said' where nothing that the law and all that it calls make is longer than what came in: it says more and counts as full. Else prove '..UptoSaid'. A law counts once. -/
mutual
def uptoBulk {H : Type} : DataW H → Nat
  | .lit (.string bytes) => bytes.length + 1
  | .lit _ => 1
  | .nil => 1
  | .ptr d => uptoBulk d + 1
  | .slice elems spare => uptoBulkAll elems + uptoBulkAll spare + 1
  | .agg parts => uptoBulkAll parts + 1
  | .iface _ d => uptoBulk d + 1
  | .map entries => uptoBulkEntries entries + 1
  | .held _ => 1
def uptoBulkAll {H : Type} : List (DataW H) → Nat
  | [] => 0
  | d :: r => uptoBulk d + uptoBulkAll r
def uptoBulkEntries {H : Type} : List (Lit × DataW H) → Nat
  | [] => 0
  | x :: r => uptoBulkEntry x + uptoBulkEntries r
def uptoBulkEntry {H : Type} : Lit × DataW H → Nat
  | (.string bytes, d) => bytes.length + uptoBulk d + 1
  | (_, d) => uptoBulk d + 1
 end
def uptoSmall : (H : Type) → List (DataW H) → Bool := fun _ ds => decide (uptoBulkAll ds ≤ 1048576)
def OpenSpec.upto (s : _root_.Go.ChangeSpec) : _root_.Go.OpenSpec := { _root_.Go.OpenSpec.ofChange s with cond := some uptoSmall }

/-- 'turnerylaw1.ScopeSays', WHERE WHAT IT READS IS OF BULK AT MOST 1048576: true; the input reads as it did. -/
def scopeSaysUptoRow : OpenClaim := { program := "ytbhpblokoecoaaa", sum := "51b484ea3a5ce6de2bc2c487dfbaf05a173cad7733393c351cf9576a32e34d35", func := "turnery/turnerylaw1.ScopeSays", spec := "scopeSays", unfollowed := true, recurses := true, apart := false, narrowed := true }
def ScopeSaysUptoSaid : Prop := scopeSaysUptoRow.holds Try.pinned (OpenSpec.upto scopeSaysSpec)

/-- 'turnerylaw1.TypesSays', WHERE WHAT IT READS IS OF BULK AT MOST 1048576: true; the input reads as it did. -/
def typesSaysUptoRow : OpenClaim := { program := "ytbhpblokoecoaaa", sum := "51b484ea3a5ce6de2bc2c487dfbaf05a173cad7733393c351cf9576a32e34d35", func := "turnery/turnerylaw1.TypesSays", spec := "typesSays", unfollowed := true, recurses := true, apart := false, narrowed := true }
def TypesSaysUptoSaid : Prop := typesSaysUptoRow.holds Try.pinned (OpenSpec.upto typesSaysSpec)

/-- 'turnerylaw1.PlaceSays', WHERE WHAT IT READS IS OF BULK AT MOST 1048576: true; the input reads as it did. -/
def placeSaysUptoRow : OpenClaim := { program := "ytbhpblokoecoaaa", sum := "51b484ea3a5ce6de2bc2c487dfbaf05a173cad7733393c351cf9576a32e34d35", func := "turnery/turnerylaw1.PlaceSays", spec := "placeSays", unfollowed := true, recurses := true, apart := false, narrowed := true }
def PlaceSaysUptoSaid : Prop := placeSaysUptoRow.holds Try.pinned (OpenSpec.upto placeSaysSpec)

end Rows
end Go.Proofs.Ytbhpblokoecoaaa
