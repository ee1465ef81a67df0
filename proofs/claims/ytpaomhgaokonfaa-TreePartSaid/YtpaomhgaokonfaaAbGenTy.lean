/-
  The types of the program as plain data, and how they stand as abstract values (written by gen3.py).
-/
import Derived.Test.YtpaomhgaokonfaaAbCx
namespace Go.Ab
open Go Go.Proofs
instance sz3 : Sz cx 3 false 1 := ⟨by kernel_rfl, by kernel_rfl⟩
instance zc3 : Zc cx 3 [.val (.int .i64 0)] := ⟨by kernel_rfl⟩
instance zm3 : Zm cx 3 [.val (.int .i64 0)] := ⟨by kernel_rfl⟩
instance ul4 : Ul cx 4 .bool := ⟨Try.underlying4⟩
instance sz4 : Sz cx 4 false 1 := ⟨by kernel_rfl, by kernel_rfl⟩
instance zc4 : Zc cx 4 [.val (.bool false)] := ⟨by kernel_rfl⟩
instance zm4 : Zm cx 4 [.val (.bool false)] := ⟨by kernel_rfl⟩
instance ul9 : Ul cx 9 .string := ⟨Try.underlying9⟩
instance sz9 : Sz cx 9 false 1 := ⟨by kernel_rfl, by kernel_rfl⟩
instance zc9 : Zc cx 9 [.val (.string ⟨#[]⟩)] := ⟨by kernel_rfl⟩
instance zm9 : Zm cx 9 [.val (.string ⟨#[]⟩)] := ⟨by kernel_rfl⟩
instance ul22 : Ul cx 22 (.slice 42) := ⟨Try.underlying22⟩
instance sz22 : Sz cx 22 false 1 := ⟨by kernel_rfl, by kernel_rfl⟩
instance zc22 : Zc cx 22 [.snil] := ⟨by kernel_rfl⟩
instance zm22 : Zm cx 22 [.own []] := ⟨by kernel_rfl⟩
instance sz24 : Sz cx 24 true 1 := ⟨by kernel_rfl, by kernel_rfl⟩
instance zc24 : Zc cx 24 [.snil] := ⟨by kernel_rfl⟩
instance zm24 : Zm cx 24 [.own []] := ⟨by kernel_rfl⟩
instance fd24_0 : Fd cx 24 0 0 1 false := ⟨by kernel_rfl⟩
instance pl24 : Pl cx 24 [(0, 1, false)] := ⟨by kernel_rfl⟩
instance sz26 : Sz cx 26 true 2 := ⟨by kernel_rfl, by kernel_rfl⟩
instance zc26 : Zc cx 26 [.val (.int .i64 0), .val (.int .i64 0)] := ⟨by kernel_rfl⟩
instance zm26 : Zm cx 26 [.val (.int .i64 0), .val (.int .i64 0)] := ⟨by kernel_rfl⟩
instance fd26_0 : Fd cx 26 0 0 1 false := ⟨by kernel_rfl⟩
instance fd26_1 : Fd cx 26 1 1 1 false := ⟨by kernel_rfl⟩
instance pl26 : Pl cx 26 [(0, 1, false), (1, 1, false)] := ⟨by kernel_rfl⟩
instance ul40 : Ul cx 40 (.slice 3) := ⟨Try.underlying40⟩
instance sz40 : Sz cx 40 false 1 := ⟨by kernel_rfl, by kernel_rfl⟩
instance zc40 : Zc cx 40 [.snil] := ⟨by kernel_rfl⟩
instance zm40 : Zm cx 40 [.own []] := ⟨by kernel_rfl⟩
instance sz42 : Sz cx 42 true 6 := ⟨by kernel_rfl, by kernel_rfl⟩
instance zc42 : Zc cx 42 [.val (.int .i64 0), .val (.string ⟨#[]⟩), .val (.int .i64 0), .val (.int .i64 0), .snil, .val (.int .i64 0)] := ⟨by kernel_rfl⟩
instance zm42 : Zm cx 42 [.val (.int .i64 0), .val (.string ⟨#[]⟩), .val (.int .i64 0), .val (.int .i64 0), .own [], .val (.int .i64 0)] := ⟨by kernel_rfl⟩
instance fd42_0 : Fd cx 42 0 0 1 false := ⟨by kernel_rfl⟩
instance fd42_1 : Fd cx 42 1 1 1 false := ⟨by kernel_rfl⟩
instance fd42_2 : Fd cx 42 2 2 1 false := ⟨by kernel_rfl⟩
instance fd42_3 : Fd cx 42 3 3 1 false := ⟨by kernel_rfl⟩
instance fd42_4 : Fd cx 42 4 4 1 false := ⟨by kernel_rfl⟩
instance fd42_5 : Fd cx 42 5 5 1 false := ⟨by kernel_rfl⟩
instance pl42 : Pl cx 42 [(0, 1, false), (1, 1, false), (2, 1, false), (3, 1, false), (4, 1, false), (5, 1, false)] := ⟨by kernel_rfl⟩
instance sz45 : Sz cx 45 true 2 := ⟨by kernel_rfl, by kernel_rfl⟩
instance zc45 : Zc cx 45 [.snil, .snil] := ⟨by kernel_rfl⟩
instance zm45 : Zm cx 45 [.own [], .own []] := ⟨by kernel_rfl⟩
instance fd45_0 : Fd cx 45 0 0 1 true := ⟨by kernel_rfl⟩
instance fd45_1 : Fd cx 45 1 1 1 false := ⟨by kernel_rfl⟩
instance pl45 : Pl cx 45 [(0, 1, true), (1, 1, false)] := ⟨by kernel_rfl⟩
instance sz49 : Sz cx 49 true 1 := ⟨by kernel_rfl, by kernel_rfl⟩
instance zc49 : Zc cx 49 [.snil] := ⟨by kernel_rfl⟩
instance zm49 : Zm cx 49 [.own []] := ⟨by kernel_rfl⟩
instance fd49_0 : Fd cx 49 0 0 1 false := ⟨by kernel_rfl⟩
instance pl49 : Pl cx 49 [(0, 1, false)] := ⟨by kernel_rfl⟩
instance ul64 : Ul cx 64 (.slice 9) := ⟨Try.underlying64⟩
instance sz64 : Sz cx 64 false 1 := ⟨by kernel_rfl, by kernel_rfl⟩
instance zc64 : Zc cx 64 [.snil] := ⟨by kernel_rfl⟩
instance zm64 : Zm cx 64 [.own []] := ⟨by kernel_rfl⟩
instance sz67 : Sz cx 67 true 2 := ⟨by kernel_rfl, by kernel_rfl⟩
instance zc67 : Zc cx 67 [.val (.int .i64 0), .val (.bool false)] := ⟨by kernel_rfl⟩
instance zm67 : Zm cx 67 [.val (.int .i64 0), .val (.bool false)] := ⟨by kernel_rfl⟩
instance fd67_0 : Fd cx 67 0 0 1 false := ⟨by kernel_rfl⟩
instance fd67_1 : Fd cx 67 1 1 1 false := ⟨by kernel_rfl⟩
instance pl67 : Pl cx 67 [(0, 1, false), (1, 1, false)] := ⟨by kernel_rfl⟩
instance ao3 : Ao cx 3 1 := ⟨by kernel_rfl⟩
instance ao42 : Ao cx 42 6 := ⟨by kernel_rfl⟩
structure XApi_Node where
 Kind : Int
 Text : ByteArray
 N : Int
 Size : Int
 Kids : (List Int)
 At : Int
 deriving DecidableEq, Inhabited
structure XApi_Tree where
 Nodes : (List XApi_Node)
 deriving DecidableEq, Inhabited
structure XApi_Fault where
 Code : Int
 At : Int
 deriving DecidableEq, Inhabited
structure XTree_checker where
 t : XApi_Tree
 first : (List Int)
 deriving DecidableEq, Inhabited
structure XAst_Two where
 Op : Int
 Turn : Bool
 deriving DecidableEq, Inhabited
def cInt_i64 (x : Int) : List AV := [(I x)]
instance : Fl cInt_i64 := ⟨fun _ => rfl⟩
instance : Imm cInt_i64 := ⟨fun _ => rfl, fun _ => rfl⟩
instance : Fz cInt_i64 cInt_i64 := ⟨fun _ => rfl⟩
instance : Mi cInt_i64 := ⟨fun _ => rfl⟩
def cXApi_Node (x : XApi_Node) : List AV := [(I x.Kind), (AV.val (.string x.Text)), (I x.N), (I x.Size), (.sl ((x.Kids).map cInt_i64)), (I x.At)]
instance : Fl cXApi_Node := ⟨fun _ => rfl⟩
instance : Imm cXApi_Node := ⟨fun _ => rfl, fun _ => rfl⟩
instance : Fz cXApi_Node cXApi_Node := ⟨fun _ => rfl⟩
def cXApi_Tree (x : XApi_Tree) : List AV := [(.sl ((x.Nodes).map cXApi_Node))]
instance : Fl cXApi_Tree := ⟨fun _ => rfl⟩
instance : Imm cXApi_Tree := ⟨fun _ => rfl, fun _ => rfl⟩
instance : Fz cXApi_Tree cXApi_Tree := ⟨fun _ => rfl⟩
def cXApi_Fault (x : XApi_Fault) : List AV := [(I x.Code), (I x.At)]
instance : Fl cXApi_Fault := ⟨fun _ => rfl⟩
instance : Imm cXApi_Fault := ⟨fun _ => rfl, fun _ => rfl⟩
instance : Fz cXApi_Fault cXApi_Fault := ⟨fun _ => rfl⟩
instance : Mi cXApi_Fault := ⟨fun _ => rfl⟩
def cStr (x : ByteArray) : List AV := [(AV.val (.string x))]
instance : Fl cStr := ⟨fun _ => rfl⟩
instance : Imm cStr := ⟨fun _ => rfl, fun _ => rfl⟩
instance : Fz cStr cStr := ⟨fun _ => rfl⟩
instance : Mi cStr := ⟨fun _ => rfl⟩
def cXTree_checker (x : XTree_checker) : List AV := [(.sl ((x.t.Nodes).map cXApi_Node)), (.sl ((x.first).map cInt_i64))]
instance : Fl cXTree_checker := ⟨fun _ => rfl⟩
instance : Imm cXTree_checker := ⟨fun _ => rfl, fun _ => rfl⟩
instance : Fz cXTree_checker cXTree_checker := ⟨fun _ => rfl⟩
def cXTree_checker_SIOe (x : XTree_checker) : List AV := [(.sl ((x.t.Nodes).map cXApi_Node)), (.own ((x.first).map cInt_i64))]
instance : Fl cXTree_checker_SIOe := ⟨fun x => by simp only [cXTree_checker_SIOe, flatL_cons, flatL_nil, flat_own, flat_val, flat_sl, Bool.and_true, Bool.and_self, fl_map]⟩
instance : Fz cXTree_checker_SIOe cXTree_checker := ⟨fun x => by simp only [cXTree_checker_SIOe, cXTree_checker]; repeat' (first | exact (rfl : fzL [] = []) | (apply fzC; exact fzk))⟩
def cXAst_Two (x : XAst_Two) : List AV := [(I x.Op), (B x.Turn)]
instance : Fl cXAst_Two := ⟨fun _ => rfl⟩
instance : Imm cXAst_Two := ⟨fun _ => rfl, fun _ => rfl⟩
instance : Fz cXAst_Two cXAst_Two := ⟨fun _ => rfl⟩
instance : Mi cXAst_Two := ⟨fun _ => rfl⟩
def cXApi_Tree_SOe (x : XApi_Tree) : List AV := [(.own ((x.Nodes).map cXApi_Node))]
instance : Fl cXApi_Tree_SOe := ⟨fun x => by simp only [cXApi_Tree_SOe, flatL_cons, flatL_nil, flat_own, flat_val, flat_sl, Bool.and_true, Bool.and_self, fl_map]⟩
instance : Fz cXApi_Tree_SOe cXApi_Tree := ⟨fun x => by simp only [cXApi_Tree_SOe, cXApi_Tree]; repeat' (first | exact (rfl : fzL [] = []) | (apply fzC; exact fzk))⟩
theorem eq26_eql (x y : Operand) {p0 q0 : Int} {p1 q1 : Int} : binV cx.P .eql 26 x y (.agg ⟨[.int .i64 p0, .int .i64 p1]⟩) (.agg ⟨[.int .i64 q0, .int .i64 q1]⟩) = some (.bool ((p0 == q0) && ((p1 == q1) && true))) :=
 bin_eqlStruct (P := Try.prog) Try.underlying26 Try.stoodInHeld26 Try.eqGuardType26 (by simp [eqL, Try.underlying3, fits, scEq])
theorem eq26_neq (x y : Operand) {p0 q0 : Int} {p1 q1 : Int} : binV cx.P .neq 26 x y (.agg ⟨[.int .i64 p0, .int .i64 p1]⟩) (.agg ⟨[.int .i64 q0, .int .i64 q1]⟩) = some (.bool (!((p0 == q0) && ((p1 == q1) && true)))) :=
 bin_neqStruct (P := Try.prog) Try.underlying26 Try.stoodInHeld26 Try.eqGuardType26 (by simp [eqL, Try.underlying3, fits, scEq])
end Go.Ab
