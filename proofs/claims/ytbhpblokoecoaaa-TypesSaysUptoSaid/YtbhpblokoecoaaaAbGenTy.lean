/-
  The types of the program as plain data, and how they stand as abstract values (written by gen3.py).
-/
import Derived.Test.YtbhpblokoecoaaaAbCx
namespace Go.Ab
open Go Go.Proofs
instance sz3 : Sz cx 3 false 1 := ⟨by kernel_rfl, by kernel_rfl⟩
instance zc3 : Zc cx 3 [.val (.int .i64 0)] := ⟨by kernel_rfl⟩
instance zm3 : Zm cx 3 [.val (.int .i64 0)] := ⟨by kernel_rfl⟩
instance ul9 : Ul cx 9 .string := ⟨Try.underlying9⟩
instance sz9 : Sz cx 9 false 1 := ⟨by kernel_rfl, by kernel_rfl⟩
instance zc9 : Zc cx 9 [.val (.string ⟨#[]⟩)] := ⟨by kernel_rfl⟩
instance ul22 : Ul cx 22 (.slice 44) := ⟨Try.underlying22⟩
instance sz22 : Sz cx 22 false 1 := ⟨by kernel_rfl, by kernel_rfl⟩
instance sz24 : Sz cx 24 true 1 := ⟨by kernel_rfl, by kernel_rfl⟩
instance fd24_0 : Fd cx 24 0 0 1 false := ⟨by kernel_rfl⟩
instance ul25 : Ul cx 25 (.slice 3) := ⟨Try.underlying25⟩
instance sz25 : Sz cx 25 false 1 := ⟨by kernel_rfl, by kernel_rfl⟩
instance zm25 : Zm cx 25 [.own [] 0] := ⟨by kernel_rfl⟩
instance sz27 : Sz cx 27 true 2 := ⟨by kernel_rfl, by kernel_rfl⟩
instance zc27 : Zc cx 27 [.val (.int .i64 0), .val (.int .i64 0)] := ⟨by kernel_rfl⟩
instance zm27 : Zm cx 27 [.val (.int .i64 0), .val (.int .i64 0)] := ⟨by kernel_rfl⟩
instance fd27_0 : Fd cx 27 0 0 1 false := ⟨by kernel_rfl⟩
instance pl27 : Pl cx 27 [(0, 1, false), (1, 1, false)] := ⟨by kernel_rfl⟩
instance sz44 : Sz cx 44 true 6 := ⟨by kernel_rfl, by kernel_rfl⟩
instance zm44 : Zm cx 44 [.val (.int .i64 0), .val (.string ⟨#[]⟩), .val (.int .i64 0), .val (.int .i64 0), .own [] 0, .val (.int .i64 0)] := ⟨by kernel_rfl⟩
instance fd44_0 : Fd cx 44 0 0 1 false := ⟨by kernel_rfl⟩
instance fd44_1 : Fd cx 44 1 1 1 false := ⟨by kernel_rfl⟩
instance fd44_2 : Fd cx 44 2 2 1 false := ⟨by kernel_rfl⟩
instance fd44_3 : Fd cx 44 3 3 1 false := ⟨by kernel_rfl⟩
instance fd44_4 : Fd cx 44 4 4 1 false := ⟨by kernel_rfl⟩
instance fd44_5 : Fd cx 44 5 5 1 false := ⟨by kernel_rfl⟩
instance sz45 : Sz cx 45 false 1 := ⟨by kernel_rfl, by kernel_rfl⟩
instance zm45 : Zm cx 45 [.val (.pointer none)] := ⟨by kernel_rfl⟩
instance mt46 : Mt cx 46 .string (vI 0) := ⟨by kernel_rfl⟩
instance sz46 : Sz cx 46 false 1 := ⟨by kernel_rfl, by kernel_rfl⟩
instance zc46 : Zc cx 46 [.val (.map none)] := ⟨by kernel_rfl⟩
instance ul47 : Ul cx 47 (.slice 46) := ⟨Try.underlying47⟩
instance sz47 : Sz cx 47 false 1 := ⟨by kernel_rfl, by kernel_rfl⟩
instance sz49 : Sz cx 49 true 3 := ⟨by kernel_rfl, by kernel_rfl⟩
instance zc49 : Zc cx 49 [.snil, .snil, .snil] := ⟨by kernel_rfl⟩
instance fd49_0 : Fd cx 49 0 0 1 true := ⟨by kernel_rfl⟩
instance fd49_1 : Fd cx 49 1 1 1 false := ⟨by kernel_rfl⟩
instance fd49_2 : Fd cx 49 2 2 1 false := ⟨by kernel_rfl⟩
instance pl49 : Pl cx 49 [(0, 1, true), (1, 1, false), (2, 1, false)] := ⟨by kernel_rfl⟩
instance sz57 : Sz cx 57 true 6 := ⟨by kernel_rfl, by kernel_rfl⟩
instance zm57 : Zm cx 57 [.own [] 0, .own [] 0, .val (.int .i64 0), .val (.int .i64 0), .val (.int .i64 0), .own [] 0] := ⟨by kernel_rfl⟩
instance fd57_0 : Fd cx 57 0 0 1 false := ⟨by kernel_rfl⟩
instance fd57_1 : Fd cx 57 1 1 1 false := ⟨by kernel_rfl⟩
instance fd57_2 : Fd cx 57 2 2 1 false := ⟨by kernel_rfl⟩
instance fd57_3 : Fd cx 57 3 3 2 true := ⟨by kernel_rfl⟩
instance fd57_4 : Fd cx 57 4 5 1 false := ⟨by kernel_rfl⟩
instance sz59 : Sz cx 59 false 1 := ⟨by kernel_rfl, by kernel_rfl⟩
instance zm59 : Zm cx 59 [.val (.pointer none)] := ⟨by kernel_rfl⟩
instance sz61 : Sz cx 61 true 11 := ⟨by kernel_rfl, by kernel_rfl⟩
instance zc61 : Zc cx 61 [.snil, .snil, .snil, .val (.int .i64 0), .val (.string ⟨#[]⟩), .val (.int .i64 0), .val (.int .i64 0), .snil, .val (.int .i64 0), .val (.int .i64 0), .val (.int .i64 0)] := ⟨by kernel_rfl⟩
instance fd61_0 : Fd cx 61 0 0 1 true := ⟨by kernel_rfl⟩
instance fd61_1 : Fd cx 61 1 1 1 false := ⟨by kernel_rfl⟩
instance fd61_2 : Fd cx 61 2 2 1 false := ⟨by kernel_rfl⟩
instance fd61_3 : Fd cx 61 3 3 6 true := ⟨by kernel_rfl⟩
instance fd61_4 : Fd cx 61 4 9 1 false := ⟨by kernel_rfl⟩
instance fd61_5 : Fd cx 61 5 10 1 false := ⟨by kernel_rfl⟩
instance pl61 : Pl cx 61 [(0, 1, true), (1, 1, false), (2, 1, false), (3, 6, true), (9, 1, false), (10, 1, false)] := ⟨by kernel_rfl⟩
instance sz64 : Sz cx 64 true 7 := ⟨by kernel_rfl, by kernel_rfl⟩
instance zc64 : Zc cx 64 [.snil, .snil, .val (.int .i64 0), .val (.int .i64 0), .val (.int .i64 0), .val (.int .i64 0), .val (.int .i64 0)] := ⟨by kernel_rfl⟩
instance zm64 : Zm cx 64 [.own [] 0, .own [] 0, .val (.int .i64 0), .val (.int .i64 0), .val (.int .i64 0), .val (.int .i64 0), .val (.int .i64 0)] := ⟨by kernel_rfl⟩
instance fd64_0 : Fd cx 64 0 0 1 false := ⟨by kernel_rfl⟩
instance fd64_1 : Fd cx 64 1 1 1 false := ⟨by kernel_rfl⟩
instance fd64_2 : Fd cx 64 2 2 1 false := ⟨by kernel_rfl⟩
instance fd64_3 : Fd cx 64 3 3 1 false := ⟨by kernel_rfl⟩
instance fd64_4 : Fd cx 64 4 4 1 false := ⟨by kernel_rfl⟩
instance fd64_5 : Fd cx 64 5 5 2 true := ⟨by kernel_rfl⟩
instance pl64 : Pl cx 64 [(0, 1, false), (1, 1, false), (2, 1, false), (3, 1, false), (4, 1, false), (5, 2, true)] := ⟨by kernel_rfl⟩
instance sz76 : Sz cx 76 true 2 := ⟨by kernel_rfl, by kernel_rfl⟩
instance zc76 : Zc cx 76 [.snil, .snil] := ⟨by kernel_rfl⟩
instance zm76 : Zm cx 76 [.own [] 0, .own [] 0] := ⟨by kernel_rfl⟩
instance fd76_0 : Fd cx 76 0 0 1 true := ⟨by kernel_rfl⟩
instance fd76_1 : Fd cx 76 1 1 1 false := ⟨by kernel_rfl⟩
instance pl76 : Pl cx 76 [(0, 1, true), (1, 1, false)] := ⟨by kernel_rfl⟩
instance sz104 : Sz cx 104 true 2 := ⟨by kernel_rfl, by kernel_rfl⟩
instance zc104 : Zc cx 104 [.val (.int .i64 0), .val (.bool false)] := ⟨by kernel_rfl⟩
instance zm104 : Zm cx 104 [.val (.int .i64 0), .val (.bool false)] := ⟨by kernel_rfl⟩
instance fd104_0 : Fd cx 104 0 0 1 false := ⟨by kernel_rfl⟩
instance pl104 : Pl cx 104 [(0, 1, false), (1, 1, false)] := ⟨by kernel_rfl⟩
instance ul110 : Ul cx 110 (.slice 9) := ⟨Try.underlying110⟩
instance ao3 : Ao cx 3 1 := ⟨by kernel_rfl⟩
instance ao46 : Ao cx 46 1 := ⟨by kernel_rfl⟩
structure XApi_Node where
 Kind : Int
 Text : ByteArray
 N : Int
 Size : Int
 Kids : (List Int)
 At : Int
 deriving DecidableEq, Inhabited
structure XApi_Tree where
 Nodes : (List XApi_Node)
 deriving DecidableEq, Inhabited
structure XApi_Fault where
 Code : Int
 At : Int
 deriving DecidableEq, Inhabited
structure XTree_checker where
 t : XApi_Tree
 first : (List Int)
 deriving DecidableEq, Inhabited
structure XAst_Two where
 Op : Int
 Turn : Bool
 deriving DecidableEq, Inhabited
structure XScope_finder where
 t : XApi_Tree
 out : (List Int)
 room : ((List (List (ByteArray × Int))) × Nat)
 deriving DecidableEq, Inhabited
structure XTurneryref1_Rooms where
 Has : (List Int)
 Room : (List Int)
 Now : Int
 Bad : XApi_Fault
 Of : (List Int)
 deriving DecidableEq, Inhabited
structure XTypes_typer where
 t : XApi_Tree
 names : (List Int)
 of_ : (List Int)
 fn : XApi_Node
 loops : Int
 leave : Int
 deriving DecidableEq, Inhabited
structure XTurneryref1_Typing where
 Names : (List Int)
 Of : (List Int)
 Tells : Int
 Loops : Int
 Leave : Int
 Bad : XApi_Fault
 deriving DecidableEq, Inhabited
def cInt_i64 (x : Int) : List AV := [(I x)]
instance : Fl cInt_i64 := ⟨fun x => rfl⟩
instance : Imm cInt_i64 := ⟨fun x => rfl, fun x => rfl⟩
instance : Fz cInt_i64 cInt_i64 := ⟨fun x => rfl⟩
def cXApi_Node (x : XApi_Node) : List AV := [(I x.Kind), (AV.val (.string x.Text)), (I x.N), (I x.Size), (.sl ((x.Kids).map cInt_i64)), (I x.At)]
instance : Fl cXApi_Node := ⟨fun x => rfl⟩
instance : Imm cXApi_Node := ⟨fun x => rfl, fun x => rfl⟩
def cXApi_Tree (x : XApi_Tree) : List AV := [(.sl ((x.Nodes).map cXApi_Node))]
def cXApi_Fault (x : XApi_Fault) : List AV := [(I x.Code), (I x.At)]
def cXTree_checker_SIOe (x : XTree_checker) : List AV := [(.sl ((x.t.Nodes).map cXApi_Node)), (.own ((x.first).map cInt_i64) (x.first).length)]
def cXAst_Two (x : XAst_Two) : List AV := [(I x.Op), (B x.Turn)]
def cStr (x : ByteArray) : List AV := [(AV.val (.string x))]
def cm_vSvI (x : (List (ByteArray × Int))) : List AV := [(.im ((x).map (mE vS vI)))]
def cw_vSvI (x : (List (ByteArray × Int))) : List AV := [(.om ((x).map (mE vS vI)))]
instance : Fl cw_vSvI := ⟨fun x => by simp only [cw_vSvI, flatL_cons, flatL_nil, flat_own, flat_val, flat_sl, flat_om, flat_im, Bool.and_true, Bool.and_self, fl_map]⟩
instance : Bw cw_vSvI cm_vSvI := ⟨fun L n x => by simp only [cw_vSvI, cm_vSvI]; exact bwck, fun x => rfl⟩
def cXScope_finder (x : XScope_finder) : List AV := [(.sl ((x.t.Nodes).map cXApi_Node)), (.sl ((x.out).map cInt_i64)), (.sl (((List.take x.room.2 x.room.1)).map cm_vSvI))]
def cXScope_finder_SIOLMe (x : XScope_finder) : List AV := [(.sl ((x.t.Nodes).map cXApi_Node)), (.own ((x.out).map cInt_i64) (x.out).length), (.own ((x.room).1.map cw_vSvI) (x.room).2)]
instance : Fl cXScope_finder_SIOLMe := ⟨fun x => by simp only [cXScope_finder_SIOLMe, flatL_cons, flatL_nil, flat_own, flat_val, flat_sl, flat_om, flat_im, Bool.and_true, Bool.and_self, fl_map]⟩
def cXTurneryref1_Rooms (x : XTurneryref1_Rooms) : List AV := [(.sl ((x.Has).map cInt_i64)), (.sl ((x.Room).map cInt_i64)), (I x.Now), (I x.Bad.Code), (I x.Bad.At), (.sl ((x.Of).map cInt_i64))]
def cXTurneryref1_Rooms_SIIIIOe (x : XTurneryref1_Rooms) : List AV := [(.sl ((x.Has).map cInt_i64)), (.sl ((x.Room).map cInt_i64)), (I x.Now), (I x.Bad.Code), (I x.Bad.At), (.own ((x.Of).map cInt_i64) (x.Of).length)]
def cXTurneryref1_Rooms_SOOIIOe (x : XTurneryref1_Rooms) : List AV := [(.own ((x.Has).map cInt_i64) (x.Has).length), (.own ((x.Room).map cInt_i64) (x.Room).length), (I x.Now), (I x.Bad.Code), (I x.Bad.At), (.own ((x.Of).map cInt_i64) (x.Of).length)]
def cXTypes_typer (x : XTypes_typer) : List AV := [(.sl ((x.t.Nodes).map cXApi_Node)), (.sl ((x.names).map cInt_i64)), (.sl ((x.of_).map cInt_i64)), (I x.fn.Kind), (AV.val (.string x.fn.Text)), (I x.fn.N), (I x.fn.Size), (.sl ((x.fn.Kids).map cInt_i64)), (I x.fn.At), (I x.loops), (I x.leave)]
def cXTypes_typer_SIIOIIIe (x : XTypes_typer) : List AV := [(.sl ((x.t.Nodes).map cXApi_Node)), (.sl ((x.names).map cInt_i64)), (.own ((x.of_).map cInt_i64) (x.of_).length), (I x.fn.Kind), (AV.val (.string x.fn.Text)), (I x.fn.N), (I x.fn.Size), (.sl ((x.fn.Kids).map cInt_i64)), (I x.fn.At), (I x.loops), (I x.leave)]
instance : Fl cXTypes_typer_SIIOIIIe := ⟨fun x => by simp only [cXTypes_typer_SIIOIIIe, flatL_cons, flatL_nil, flat_own, flat_val, flat_sl, flat_om, flat_im, Bool.and_true, Bool.and_self, fl_map]⟩
def cXTurneryref1_Typing (x : XTurneryref1_Typing) : List AV := [(.sl ((x.Names).map cInt_i64)), (.sl ((x.Of).map cInt_i64)), (I x.Tells), (I x.Loops), (I x.Leave), (I x.Bad.Code), (I x.Bad.At)]
def cXTurneryref1_Typing_SIOIIIIe (x : XTurneryref1_Typing) : List AV := [(.sl ((x.Names).map cInt_i64)), (.own ((x.Of).map cInt_i64) (x.Of).length), (I x.Tells), (I x.Loops), (I x.Leave), (I x.Bad.Code), (I x.Bad.At)]
def cXTurneryref1_Typing_SOOIIIIe (x : XTurneryref1_Typing) : List AV := [(.own ((x.Names).map cInt_i64) (x.Names).length), (.own ((x.Of).map cInt_i64) (x.Of).length), (I x.Tells), (I x.Loops), (I x.Leave), (I x.Bad.Code), (I x.Bad.At)]
theorem eq27_eql (x y : Operand) {p0 q0 : Int} {p1 q1 : Int} : binV cx.P .eql 27 x y (.agg ⟨[.int .i64 p0, .int .i64 p1]⟩) (.agg ⟨[.int .i64 q0, .int .i64 q1]⟩) = some (.bool ((p0 == q0) && ((p1 == q1) && true))) :=
 bin_eqlStruct (P := Try.prog) Try.underlying27 Try.stoodInHeld27 Try.eqGuardType27 (by simp [eqL, Try.underlying3, fits, scEq])
theorem eq27_neq (x y : Operand) {p0 q0 : Int} {p1 q1 : Int} : binV cx.P .neq 27 x y (.agg ⟨[.int .i64 p0, .int .i64 p1]⟩) (.agg ⟨[.int .i64 q0, .int .i64 q1]⟩) = some (.bool (!((p0 == q0) && ((p1 == q1) && true)))) :=
 bin_neqStruct (P := Try.prog) Try.underlying27 Try.stoodInHeld27 Try.eqGuardType27 (by simp [eqL, Try.underlying3, fits, scEq])
end Go.Ab
