/-
  NARROWER THAN 'FOR EVERY INPUT', by the rows' own cells (each row's printed sentence says how): TokenSays: laid · TokenWrites: laid · TokenBack: laid · TokenJoin: laid · TokenBlank: laid · TokenWhole: laid.
  DERIVED. THE GIVEN ROWS OF THIS SEAT. 6 by the template 'for every input the law returns true; each argument reads behind the call as it read before'; 0 by the template 'total and deterministic' (their statements: YtkgjhnmpcnjooaaDoorTotals.lean).
  GIVEN WITH THE SEED: the statements are not yours to turn. If you find one false, say at which input.
  Laid BY PROGRAM, IN A SANDBOX (cutbox-rows.mjs): the forced cells as the released guide's own fill.sh prints them over the translation a831aa474bccae75… (all of the seat's roots in one cut). By AI agents, Wed Nov 11 2026. No macro, syntax, notation, axiom, sorry.
-/
import Derived.Test.YtkgjhnmpcnjooaaDoorChecked
import GoSem.Claim
import GoSem.ClaimJoined
import GoSem.ClaimMapViews
import Derived.JoinedTies
import Derived.KernelRfl
namespace Go.Proofs.YtkgjhnmpcnjooaaDoor
/- THE CELL 'sum', in the pinned program and in every row, IS THE sha256 OF THE DUMP (.gsa) THAT YtkgjhnmpcnjooaaDoorProg.lean LOADS. Nothing in Lean hashes anything: it is a label: what it is worth is what the hold of that sum in a sandbox is worth. -/
noncomputable def Tryd.pinned : Pinned := { name := "ytkgjhnmpcnjooaadoor", sum := "a831aa474bccae75d0c59aa0e49c3ecabe98d2675dce88c04e265dc64909c9cf", checked := Tryd.checked }
namespace Rows
def none {H : Type} : Left H := { results := [], args := [] }

/- WHAT THE LISTED PACKAGE-LEVEL VARIABLES READ AS WHEN THE CALL BEGINS. Each datum BY PROGRAM (the guide's laid-datum.mjs) off the statement by which the dump's own 'gosem.cut.vars' lays the variable. In a bare row this is a premise. The card (YtkgjhnmpcnjooaaDoorCards.lean) ties it to the program's text. -/
def laid_math_bits_deBruijn32tab {H : Type} : DataW H := .agg [.lit (.int .u8 0), .lit (.int .u8 1), .lit (.int .u8 28), .lit (.int .u8 2), .lit (.int .u8 29), .lit (.int .u8 14), .lit (.int .u8 24), .lit (.int .u8 3), .lit (.int .u8 30), .lit (.int .u8 22), .lit (.int .u8 20), .lit (.int .u8 15), .lit (.int .u8 25), .lit (.int .u8 17), .lit (.int .u8 4), .lit (.int .u8 8), .lit (.int .u8 31), .lit (.int .u8 27), .lit (.int .u8 13), .lit (.int .u8 23), .lit (.int .u8 21), .lit (.int .u8 19), .lit (.int .u8 16), .lit (.int .u8 7), .lit (.int .u8 26), .lit (.int .u8 12), .lit (.int .u8 18), .lit (.int .u8 6), .lit (.int .u8 11), .lit (.int .u8 5), .lit (.int .u8 10), .lit (.int .u8 9)]
def laid_math_bits_deBruijn64tab {H : Type} : DataW H := .agg [.lit (.int .u8 0), .lit (.int .u8 1), .lit (.int .u8 56), .lit (.int .u8 2), .lit (.int .u8 57), .lit (.int .u8 49), .lit (.int .u8 28), .lit (.int .u8 3), .lit (.int .u8 61), .lit (.int .u8 58), .lit (.int .u8 42), .lit (.int .u8 50), .lit (.int .u8 38), .lit (.int .u8 29), .lit (.int .u8 17), .lit (.int .u8 4), .lit (.int .u8 62), .lit (.int .u8 47), .lit (.int .u8 59), .lit (.int .u8 36), .lit (.int .u8 45), .lit (.int .u8 43), .lit (.int .u8 51), .lit (.int .u8 22), .lit (.int .u8 53), .lit (.int .u8 39), .lit (.int .u8 33), .lit (.int .u8 30), .lit (.int .u8 24), .lit (.int .u8 18), .lit (.int .u8 12), .lit (.int .u8 5), .lit (.int .u8 63), .lit (.int .u8 55), .lit (.int .u8 48), .lit (.int .u8 27), .lit (.int .u8 60), .lit (.int .u8 41), .lit (.int .u8 37), .lit (.int .u8 16), .lit (.int .u8 46), .lit (.int .u8 35), .lit (.int .u8 44), .lit (.int .u8 21), .lit (.int .u8 52), .lit (.int .u8 32), .lit (.int .u8 23), .lit (.int .u8 11), .lit (.int .u8 54), .lit (.int .u8 26), .lit (.int .u8 40), .lit (.int .u8 15), .lit (.int .u8 34), .lit (.int .u8 20), .lit (.int .u8 31), .lit (.int .u8 10), .lit (.int .u8 25), .lit (.int .u8 14), .lit (.int .u8 19), .lit (.int .u8 9), .lit (.int .u8 13), .lit (.int .u8 8), .lit (.int .u8 7), .lit (.int .u8 6)]
def laid_internal_strconv_uint64pow10 {H : Type} : DataW H := .agg [.lit (.int .u64 1), .lit (.int .u64 10), .lit (.int .u64 100), .lit (.int .u64 1000), .lit (.int .u64 10000), .lit (.int .u64 100000), .lit (.int .u64 1000000), .lit (.int .u64 10000000), .lit (.int .u64 100000000), .lit (.int .u64 1000000000), .lit (.int .u64 10000000000), .lit (.int .u64 100000000000), .lit (.int .u64 1000000000000), .lit (.int .u64 10000000000000), .lit (.int .u64 100000000000000), .lit (.int .u64 1000000000000000), .lit (.int .u64 10000000000000000), .lit (.int .u64 100000000000000000), .lit (.int .u64 1000000000000000000), .lit (.int .u64 10000000000000000000)]
def laid_strconv_ErrRange {H : Type} : DataW H := .iface "*errors.errorString" (.ptr (.agg [.lit (.string [118, 97, 108, 117, 101, 32, 111, 117, 116, 32, 111, 102, 32, 114, 97, 110, 103, 101])]))
def laid_strconv_ErrSyntax {H : Type} : DataW H := .iface "*errors.errorString" (.ptr (.agg [.lit (.string [105, 110, 118, 97, 108, 105, 100, 32, 115, 121, 110, 116, 97, 120])]))
def laid_turnery_token_keys {H : Type} : DataW H := .agg [.lit (.string [105, 110, 116]), .lit (.string [118, 111, 105, 100]), .lit (.string [105, 102]), .lit (.string [101, 108, 115, 101]), .lit (.string [119, 104, 105, 108, 101]), .lit (.string [100, 111]), .lit (.string [102, 111, 114]), .lit (.string [115, 119, 105, 116, 99, 104]), .lit (.string [99, 97, 115, 101]), .lit (.string [100, 101, 102, 97, 117, 108, 116]), .lit (.string [98, 114, 101, 97, 107]), .lit (.string [99, 111, 110, 116, 105, 110, 117, 101]), .lit (.string [114, 101, 116, 117, 114, 110])]
def laid_turnery_token_signs {H : Type} : DataW H := .agg [.lit (.string [60, 60, 61]), .lit (.string [62, 62, 61]), .lit (.string [60, 60]), .lit (.string [62, 62]), .lit (.string [60, 61]), .lit (.string [62, 61]), .lit (.string [61, 61]), .lit (.string [33, 61]), .lit (.string [38, 38]), .lit (.string [124, 124]), .lit (.string [43, 61]), .lit (.string [45, 61]), .lit (.string [42, 61]), .lit (.string [47, 61]), .lit (.string [37, 61]), .lit (.string [38, 61]), .lit (.string [94, 61]), .lit (.string [124, 61]), .lit (.string [43, 43]), .lit (.string [45, 45]), .lit (.string [43]), .lit (.string [45]), .lit (.string [42]), .lit (.string [47]), .lit (.string [37]), .lit (.string [38]), .lit (.string [124]), .lit (.string [94]), .lit (.string [126]), .lit (.string [33]), .lit (.string [60]), .lit (.string [62]), .lit (.string [61]), .lit (.string [63]), .lit (.string [58]), .lit (.string [59]), .lit (.string [44]), .lit (.string [40]), .lit (.string [41]), .lit (.string [91]), .lit (.string [93]), .lit (.string [123]), .lit (.string [125])]

/-- 'turnerylaw1.TokenSays': WHATEVER THE INPUT: true; the input reads as it did. -/
def tokenSaysSpec : ChangeSpec := { name := "tokenSays", fn := fun _ => fun
  | [d] => { results := [.lit (.bool true)], args := [d] }
  | _ => none }
def tokenSaysRow : OpenClaim := { program := "ytkgjhnmpcnjooaadoor", sum := "a831aa474bccae75d0c59aa0e49c3ecabe98d2675dce88c04e265dc64909c9cf", func := "turnery/turnerylaw1.TokenSays", spec := "tokenSays", inPlace := ["internal/bytealg.IndexByteString", "internal/bytealg.IndexString"], unfollowed := true, recurses := true, named := ["internal/bytealg.MaxLen", "turnery/token.keys", "strconv.ErrSyntax", "strconv.ErrRange", "internal/strconv.uint64pow10", "math/bits.deBruijn32tab", "math/bits.deBruijn64tab", "turnery/token.signs"], apart := false, laid := [("math/bits.deBruijn32tab", laid_math_bits_deBruijn32tab), ("math/bits.deBruijn64tab", laid_math_bits_deBruijn64tab), ("internal/strconv.uint64pow10", laid_internal_strconv_uint64pow10), ("strconv.ErrRange", laid_strconv_ErrRange), ("strconv.ErrSyntax", laid_strconv_ErrSyntax), ("turnery/token.keys", laid_turnery_token_keys), ("turnery/token.signs", laid_turnery_token_signs)] }
def TokenSaysSaid : Prop := tokenSaysRow.holds Tryd.pinned (OpenSpec.ofChange tokenSaysSpec)

/-- ITS FALSE NEIGHBOUR: 'it returns false'. Refute it at one input. -/
def tokenSaysWrong : ChangeSpec := { name := "tokenSays", fn := fun _ => fun
  | [d] => { results := [.lit (.bool false)], args := [d] }
  | _ => none }
def TokenSaysWrongFalsely : Prop := tokenSaysRow.holds Tryd.pinned (OpenSpec.ofChange tokenSaysWrong)

/-- 'turnerylaw1.TokenWrites': WHATEVER THE INPUT: true; the input reads as it did. -/
def tokenWritesSpec : ChangeSpec := { name := "tokenWrites", fn := fun _ => fun
  | [d] => { results := [.lit (.bool true)], args := [d] }
  | _ => none }
def tokenWritesRow : OpenClaim := { program := "ytkgjhnmpcnjooaadoor", sum := "a831aa474bccae75d0c59aa0e49c3ecabe98d2675dce88c04e265dc64909c9cf", func := "turnery/turnerylaw1.TokenWrites", spec := "tokenWrites", inPlace := ["internal/bytealg.IndexByteString", "internal/bytealg.IndexString", "internal/abi.NoEscape", "internal/bytealg.MakeNoZero"], unfollowed := true, recurses := true, named := ["turnery/token.keys", "strconv.ErrSyntax", "strconv.ErrRange", "internal/strconv.uint64pow10", "math/bits.deBruijn32tab", "math/bits.deBruijn64tab", "internal/bytealg.MaxLen", "turnery/token.signs"], apart := false, laid := [("math/bits.deBruijn32tab", laid_math_bits_deBruijn32tab), ("math/bits.deBruijn64tab", laid_math_bits_deBruijn64tab), ("internal/strconv.uint64pow10", laid_internal_strconv_uint64pow10), ("strconv.ErrRange", laid_strconv_ErrRange), ("strconv.ErrSyntax", laid_strconv_ErrSyntax), ("turnery/token.keys", laid_turnery_token_keys), ("turnery/token.signs", laid_turnery_token_signs)] }
def TokenWritesSaid : Prop := tokenWritesRow.holds Tryd.pinned (OpenSpec.ofChange tokenWritesSpec)

/-- ITS FALSE NEIGHBOUR: 'it returns false'. Refute it at one input. -/
def tokenWritesWrong : ChangeSpec := { name := "tokenWrites", fn := fun _ => fun
  | [d] => { results := [.lit (.bool false)], args := [d] }
  | _ => none }
def TokenWritesWrongFalsely : Prop := tokenWritesRow.holds Tryd.pinned (OpenSpec.ofChange tokenWritesWrong)

/-- 'turnerylaw1.TokenBack': WHATEVER THE INPUT: true; the input reads as it did. -/
def tokenBackSpec : ChangeSpec := { name := "tokenBack", fn := fun _ => fun
  | [d1, d2] => { results := [.lit (.bool true)], args := [d1, d2] }
  | _ => none }
def tokenBackRow : OpenClaim := { program := "ytkgjhnmpcnjooaadoor", sum := "a831aa474bccae75d0c59aa0e49c3ecabe98d2675dce88c04e265dc64909c9cf", func := "turnery/turnerylaw1.TokenBack", spec := "tokenBack", inPlace := ["internal/bytealg.IndexByteString", "internal/bytealg.IndexString", "internal/abi.NoEscape", "internal/bytealg.MakeNoZero"], unfollowed := true, recurses := true, named := ["internal/bytealg.MaxLen", "turnery/token.keys", "strconv.ErrSyntax", "strconv.ErrRange", "internal/strconv.uint64pow10", "math/bits.deBruijn32tab", "math/bits.deBruijn64tab", "turnery/token.signs"], apart := false, laid := [("math/bits.deBruijn32tab", laid_math_bits_deBruijn32tab), ("math/bits.deBruijn64tab", laid_math_bits_deBruijn64tab), ("internal/strconv.uint64pow10", laid_internal_strconv_uint64pow10), ("strconv.ErrRange", laid_strconv_ErrRange), ("strconv.ErrSyntax", laid_strconv_ErrSyntax), ("turnery/token.keys", laid_turnery_token_keys), ("turnery/token.signs", laid_turnery_token_signs)] }
def TokenBackSaid : Prop := tokenBackRow.holds Tryd.pinned (OpenSpec.ofChange tokenBackSpec)

/-- ITS FALSE NEIGHBOUR: 'it returns false'. Refute it at one input. -/
def tokenBackWrong : ChangeSpec := { name := "tokenBack", fn := fun _ => fun
  | [d1, d2] => { results := [.lit (.bool false)], args := [d1, d2] }
  | _ => none }
def TokenBackWrongFalsely : Prop := tokenBackRow.holds Tryd.pinned (OpenSpec.ofChange tokenBackWrong)

/-- 'turnerylaw1.TokenJoin': WHATEVER THE INPUT: true; the input reads as it did. -/
def tokenJoinSpec : ChangeSpec := { name := "tokenJoin", fn := fun _ => fun
  | [d1, d2] => { results := [.lit (.bool true)], args := [d1, d2] }
  | _ => none }
def tokenJoinRow : OpenClaim := { program := "ytkgjhnmpcnjooaadoor", sum := "a831aa474bccae75d0c59aa0e49c3ecabe98d2675dce88c04e265dc64909c9cf", func := "turnery/turnerylaw1.TokenJoin", spec := "tokenJoin", inPlace := ["internal/bytealg.IndexByteString", "internal/bytealg.IndexString", "internal/abi.NoEscape", "internal/bytealg.MakeNoZero"], unfollowed := true, recurses := true, named := ["internal/bytealg.MaxLen", "turnery/token.keys", "strconv.ErrSyntax", "strconv.ErrRange", "internal/strconv.uint64pow10", "math/bits.deBruijn32tab", "math/bits.deBruijn64tab", "turnery/token.signs"], apart := false, laid := [("math/bits.deBruijn32tab", laid_math_bits_deBruijn32tab), ("math/bits.deBruijn64tab", laid_math_bits_deBruijn64tab), ("internal/strconv.uint64pow10", laid_internal_strconv_uint64pow10), ("strconv.ErrRange", laid_strconv_ErrRange), ("strconv.ErrSyntax", laid_strconv_ErrSyntax), ("turnery/token.keys", laid_turnery_token_keys), ("turnery/token.signs", laid_turnery_token_signs)] }
def TokenJoinSaid : Prop := tokenJoinRow.holds Tryd.pinned (OpenSpec.ofChange tokenJoinSpec)

/-- ITS FALSE NEIGHBOUR: 'it returns false'. Refute it at one input. -/
def tokenJoinWrong : ChangeSpec := { name := "tokenJoin", fn := fun _ => fun
  | [d1, d2] => { results := [.lit (.bool false)], args := [d1, d2] }
  | _ => none }
def TokenJoinWrongFalsely : Prop := tokenJoinRow.holds Tryd.pinned (OpenSpec.ofChange tokenJoinWrong)

/-- 'turnerylaw1.TokenBlank': WHATEVER THE INPUT: true; the input reads as it did. -/
def tokenBlankSpec : ChangeSpec := { name := "tokenBlank", fn := fun _ => fun
  | [d1, d2, d3] => { results := [.lit (.bool true)], args := [d1, d2, d3] }
  | _ => none }
def tokenBlankRow : OpenClaim := { program := "ytkgjhnmpcnjooaadoor", sum := "a831aa474bccae75d0c59aa0e49c3ecabe98d2675dce88c04e265dc64909c9cf", func := "turnery/turnerylaw1.TokenBlank", spec := "tokenBlank", inPlace := ["internal/bytealg.IndexByteString", "internal/bytealg.IndexString", "internal/abi.NoEscape", "internal/bytealg.MakeNoZero"], unfollowed := true, recurses := true, named := ["internal/bytealg.MaxLen", "turnery/token.keys", "strconv.ErrSyntax", "strconv.ErrRange", "internal/strconv.uint64pow10", "math/bits.deBruijn32tab", "math/bits.deBruijn64tab", "turnery/token.signs"], apart := false, laid := [("math/bits.deBruijn32tab", laid_math_bits_deBruijn32tab), ("math/bits.deBruijn64tab", laid_math_bits_deBruijn64tab), ("internal/strconv.uint64pow10", laid_internal_strconv_uint64pow10), ("strconv.ErrRange", laid_strconv_ErrRange), ("strconv.ErrSyntax", laid_strconv_ErrSyntax), ("turnery/token.keys", laid_turnery_token_keys), ("turnery/token.signs", laid_turnery_token_signs)] }
def TokenBlankSaid : Prop := tokenBlankRow.holds Tryd.pinned (OpenSpec.ofChange tokenBlankSpec)

/-- ITS FALSE NEIGHBOUR: 'it returns false'. Refute it at one input. -/
def tokenBlankWrong : ChangeSpec := { name := "tokenBlank", fn := fun _ => fun
  | [d1, d2, d3] => { results := [.lit (.bool false)], args := [d1, d2, d3] }
  | _ => none }
def TokenBlankWrongFalsely : Prop := tokenBlankRow.holds Tryd.pinned (OpenSpec.ofChange tokenBlankWrong)

/-- 'turnerylaw1.TokenWhole': WHATEVER THE INPUT: true; the input reads as it did. -/
def tokenWholeSpec : ChangeSpec := { name := "tokenWhole", fn := fun _ => fun
  | [d] => { results := [.lit (.bool true)], args := [d] }
  | _ => none }
def tokenWholeRow : OpenClaim := { program := "ytkgjhnmpcnjooaadoor", sum := "a831aa474bccae75d0c59aa0e49c3ecabe98d2675dce88c04e265dc64909c9cf", func := "turnery/turnerylaw1.TokenWhole", spec := "tokenWhole", inPlace := ["internal/bytealg.IndexByteString", "internal/bytealg.IndexString", "internal/abi.NoEscape", "internal/bytealg.MakeNoZero"], unfollowed := true, recurses := true, named := ["internal/bytealg.MaxLen", "turnery/token.keys", "strconv.ErrSyntax", "strconv.ErrRange", "internal/strconv.uint64pow10", "math/bits.deBruijn32tab", "math/bits.deBruijn64tab", "turnery/token.signs"], apart := false, laid := [("math/bits.deBruijn32tab", laid_math_bits_deBruijn32tab), ("math/bits.deBruijn64tab", laid_math_bits_deBruijn64tab), ("internal/strconv.uint64pow10", laid_internal_strconv_uint64pow10), ("strconv.ErrRange", laid_strconv_ErrRange), ("strconv.ErrSyntax", laid_strconv_ErrSyntax), ("turnery/token.keys", laid_turnery_token_keys), ("turnery/token.signs", laid_turnery_token_signs)] }
def TokenWholeSaid : Prop := tokenWholeRow.holds Tryd.pinned (OpenSpec.ofChange tokenWholeSpec)

/-- ITS FALSE NEIGHBOUR: 'it returns false'. Refute it at one input. -/
def tokenWholeWrong : ChangeSpec := { name := "tokenWhole", fn := fun _ => fun
  | [d] => { results := [.lit (.bool false)], args := [d] }
  | _ => none }
def TokenWholeWrongFalsely : Prop := tokenWholeRow.holds Tryd.pinned (OpenSpec.ofChange tokenWholeWrong)

/- THE SECOND FORM. 'bulk': how many values and letters a reading holds, each counted each time it is reached (what is shared counts as often as it is met; a slice's spare places count too). A statement '..UptoSaid' is the law's where the arguments, and the package variables that the reading takes, are together of bulk at most 1048576: NARROWER than '..Said'. Prove '..Said' where nothing that the law and all that it calls make is longer than what came in: it says more and counts as full. Else prove '..UptoSaid'. A law counts once. -/
mutual
def uptoBulk {H : Type} : DataW H → Nat
  | .lit (.string bytes) => bytes.length + 1
  | .lit _ => 1
  | .nil => 1
  | .ptr d => uptoBulk d + 1
  | .slice elems spare => uptoBulkAll elems + uptoBulkAll spare + 1
  | .agg parts => uptoBulkAll parts + 1
  | .iface _ d => uptoBulk d + 1
  | .map entries => uptoBulkEntries entries + 1
  | .held _ => 1
def uptoBulkAll {H : Type} : List (DataW H) → Nat
  | [] => 0
  | d :: r => uptoBulk d + uptoBulkAll r
def uptoBulkEntries {H : Type} : List (Lit × DataW H) → Nat
  | [] => 0
  | x :: r => uptoBulkEntry x + uptoBulkEntries r
def uptoBulkEntry {H : Type} : Lit × DataW H → Nat
  | (.string bytes, d) => bytes.length + uptoBulk d + 1
  | (_, d) => uptoBulk d + 1
 end
def uptoSmall : (H : Type) → List (DataW H) → Bool := fun _ ds => decide (uptoBulkAll ds ≤ 1048576)
def OpenSpec.upto (s : _root_.Go.ChangeSpec) : _root_.Go.OpenSpec := { _root_.Go.OpenSpec.ofChange s with cond := some uptoSmall }

/-- 'turnerylaw1.TokenSays', WHERE WHAT IT READS IS OF BULK AT MOST 1048576: true; the input reads as it did. -/
def tokenSaysUptoRow : OpenClaim := { program := "ytkgjhnmpcnjooaadoor", sum := "a831aa474bccae75d0c59aa0e49c3ecabe98d2675dce88c04e265dc64909c9cf", func := "turnery/turnerylaw1.TokenSays", spec := "tokenSays", inPlace := ["internal/bytealg.IndexByteString", "internal/bytealg.IndexString"], unfollowed := true, recurses := true, named := ["internal/bytealg.MaxLen", "turnery/token.keys", "strconv.ErrSyntax", "strconv.ErrRange", "internal/strconv.uint64pow10", "math/bits.deBruijn32tab", "math/bits.deBruijn64tab", "turnery/token.signs"], apart := false, laid := [("math/bits.deBruijn32tab", laid_math_bits_deBruijn32tab), ("math/bits.deBruijn64tab", laid_math_bits_deBruijn64tab), ("internal/strconv.uint64pow10", laid_internal_strconv_uint64pow10), ("strconv.ErrRange", laid_strconv_ErrRange), ("strconv.ErrSyntax", laid_strconv_ErrSyntax), ("turnery/token.keys", laid_turnery_token_keys), ("turnery/token.signs", laid_turnery_token_signs)], narrowed := true }
def TokenSaysUptoSaid : Prop := tokenSaysUptoRow.holds Tryd.pinned (OpenSpec.upto tokenSaysSpec)

/-- 'turnerylaw1.TokenWrites', WHERE WHAT IT READS IS OF BULK AT MOST 1048576: true; the input reads as it did. -/
def tokenWritesUptoRow : OpenClaim := { program := "ytkgjhnmpcnjooaadoor", sum := "a831aa474bccae75d0c59aa0e49c3ecabe98d2675dce88c04e265dc64909c9cf", func := "turnery/turnerylaw1.TokenWrites", spec := "tokenWrites", inPlace := ["internal/bytealg.IndexByteString", "internal/bytealg.IndexString", "internal/abi.NoEscape", "internal/bytealg.MakeNoZero"], unfollowed := true, recurses := true, named := ["turnery/token.keys", "strconv.ErrSyntax", "strconv.ErrRange", "internal/strconv.uint64pow10", "math/bits.deBruijn32tab", "math/bits.deBruijn64tab", "internal/bytealg.MaxLen", "turnery/token.signs"], apart := false, laid := [("math/bits.deBruijn32tab", laid_math_bits_deBruijn32tab), ("math/bits.deBruijn64tab", laid_math_bits_deBruijn64tab), ("internal/strconv.uint64pow10", laid_internal_strconv_uint64pow10), ("strconv.ErrRange", laid_strconv_ErrRange), ("strconv.ErrSyntax", laid_strconv_ErrSyntax), ("turnery/token.keys", laid_turnery_token_keys), ("turnery/token.signs", laid_turnery_token_signs)], narrowed := true }
def TokenWritesUptoSaid : Prop := tokenWritesUptoRow.holds Tryd.pinned (OpenSpec.upto tokenWritesSpec)

/-- 'turnerylaw1.TokenBack', WHERE WHAT IT READS IS OF BULK AT MOST 1048576: true; the input reads as it did. -/
def tokenBackUptoRow : OpenClaim := { program := "ytkgjhnmpcnjooaadoor", sum := "a831aa474bccae75d0c59aa0e49c3ecabe98d2675dce88c04e265dc64909c9cf", func := "turnery/turnerylaw1.TokenBack", spec := "tokenBack", inPlace := ["internal/bytealg.IndexByteString", "internal/bytealg.IndexString", "internal/abi.NoEscape", "internal/bytealg.MakeNoZero"], unfollowed := true, recurses := true, named := ["internal/bytealg.MaxLen", "turnery/token.keys", "strconv.ErrSyntax", "strconv.ErrRange", "internal/strconv.uint64pow10", "math/bits.deBruijn32tab", "math/bits.deBruijn64tab", "turnery/token.signs"], apart := false, laid := [("math/bits.deBruijn32tab", laid_math_bits_deBruijn32tab), ("math/bits.deBruijn64tab", laid_math_bits_deBruijn64tab), ("internal/strconv.uint64pow10", laid_internal_strconv_uint64pow10), ("strconv.ErrRange", laid_strconv_ErrRange), ("strconv.ErrSyntax", laid_strconv_ErrSyntax), ("turnery/token.keys", laid_turnery_token_keys), ("turnery/token.signs", laid_turnery_token_signs)], narrowed := true }
def TokenBackUptoSaid : Prop := tokenBackUptoRow.holds Tryd.pinned (OpenSpec.upto tokenBackSpec)

/-- 'turnerylaw1.TokenJoin', WHERE WHAT IT READS IS OF BULK AT MOST 1048576: true; the input reads as it did. -/
def tokenJoinUptoRow : OpenClaim := { program := "ytkgjhnmpcnjooaadoor", sum := "a831aa474bccae75d0c59aa0e49c3ecabe98d2675dce88c04e265dc64909c9cf", func := "turnery/turnerylaw1.TokenJoin", spec := "tokenJoin", inPlace := ["internal/bytealg.IndexByteString", "internal/bytealg.IndexString", "internal/abi.NoEscape", "internal/bytealg.MakeNoZero"], unfollowed := true, recurses := true, named := ["internal/bytealg.MaxLen", "turnery/token.keys", "strconv.ErrSyntax", "strconv.ErrRange", "internal/strconv.uint64pow10", "math/bits.deBruijn32tab", "math/bits.deBruijn64tab", "turnery/token.signs"], apart := false, laid := [("math/bits.deBruijn32tab", laid_math_bits_deBruijn32tab), ("math/bits.deBruijn64tab", laid_math_bits_deBruijn64tab), ("internal/strconv.uint64pow10", laid_internal_strconv_uint64pow10), ("strconv.ErrRange", laid_strconv_ErrRange), ("strconv.ErrSyntax", laid_strconv_ErrSyntax), ("turnery/token.keys", laid_turnery_token_keys), ("turnery/token.signs", laid_turnery_token_signs)], narrowed := true }
def TokenJoinUptoSaid : Prop := tokenJoinUptoRow.holds Tryd.pinned (OpenSpec.upto tokenJoinSpec)

/-- 'turnerylaw1.TokenBlank', WHERE WHAT IT READS IS OF BULK AT MOST 1048576: true; the input reads as it did. -/
def tokenBlankUptoRow : OpenClaim := { program := "ytkgjhnmpcnjooaadoor", sum := "a831aa474bccae75d0c59aa0e49c3ecabe98d2675dce88c04e265dc64909c9cf", func := "turnery/turnerylaw1.TokenBlank", spec := "tokenBlank", inPlace := ["internal/bytealg.IndexByteString", "internal/bytealg.IndexString", "internal/abi.NoEscape", "internal/bytealg.MakeNoZero"], unfollowed := true, recurses := true, named := ["internal/bytealg.MaxLen", "turnery/token.keys", "strconv.ErrSyntax", "strconv.ErrRange", "internal/strconv.uint64pow10", "math/bits.deBruijn32tab", "math/bits.deBruijn64tab", "turnery/token.signs"], apart := false, laid := [("math/bits.deBruijn32tab", laid_math_bits_deBruijn32tab), ("math/bits.deBruijn64tab", laid_math_bits_deBruijn64tab), ("internal/strconv.uint64pow10", laid_internal_strconv_uint64pow10), ("strconv.ErrRange", laid_strconv_ErrRange), ("strconv.ErrSyntax", laid_strconv_ErrSyntax), ("turnery/token.keys", laid_turnery_token_keys), ("turnery/token.signs", laid_turnery_token_signs)], narrowed := true }
def TokenBlankUptoSaid : Prop := tokenBlankUptoRow.holds Tryd.pinned (OpenSpec.upto tokenBlankSpec)

/-- 'turnerylaw1.TokenWhole', WHERE WHAT IT READS IS OF BULK AT MOST 1048576: true; the input reads as it did. -/
def tokenWholeUptoRow : OpenClaim := { program := "ytkgjhnmpcnjooaadoor", sum := "a831aa474bccae75d0c59aa0e49c3ecabe98d2675dce88c04e265dc64909c9cf", func := "turnery/turnerylaw1.TokenWhole", spec := "tokenWhole", inPlace := ["internal/bytealg.IndexByteString", "internal/bytealg.IndexString", "internal/abi.NoEscape", "internal/bytealg.MakeNoZero"], unfollowed := true, recurses := true, named := ["internal/bytealg.MaxLen", "turnery/token.keys", "strconv.ErrSyntax", "strconv.ErrRange", "internal/strconv.uint64pow10", "math/bits.deBruijn32tab", "math/bits.deBruijn64tab", "turnery/token.signs"], apart := false, laid := [("math/bits.deBruijn32tab", laid_math_bits_deBruijn32tab), ("math/bits.deBruijn64tab", laid_math_bits_deBruijn64tab), ("internal/strconv.uint64pow10", laid_internal_strconv_uint64pow10), ("strconv.ErrRange", laid_strconv_ErrRange), ("strconv.ErrSyntax", laid_strconv_ErrSyntax), ("turnery/token.keys", laid_turnery_token_keys), ("turnery/token.signs", laid_turnery_token_signs)], narrowed := true }
def TokenWholeUptoSaid : Prop := tokenWholeUptoRow.holds Tryd.pinned (OpenSpec.upto tokenWholeSpec)

end Rows
end Go.Proofs.YtkgjhnmpcnjooaaDoor
