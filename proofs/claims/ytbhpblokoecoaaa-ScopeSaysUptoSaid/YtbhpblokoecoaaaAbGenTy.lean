/-
  The types of the program as plain data, and how they stand as abstract values (written by gen3.py).
-/
import Derived.Test.YtbhpblokoecoaaaAbCx
namespace Go.Ab
open Go Go.Proofs
instance ul3 : Ul cx 3 (.int .i64) := ⟨Try.underlying3⟩
instance sz3 : Sz cx 3 false 1 := ⟨by kernel_rfl, by kernel_rfl⟩
instance zc3 : Zc cx 3 [.val (.int .i64 0)] := ⟨by kernel_rfl⟩
instance zm3 : Zm cx 3 [.val (.int .i64 0)] := ⟨by kernel_rfl⟩
instance ul4 : Ul cx 4 .bool := ⟨Try.underlying4⟩
instance sz4 : Sz cx 4 false 1 := ⟨by kernel_rfl, by kernel_rfl⟩
instance zc4 : Zc cx 4 [.val (.bool false)] := ⟨by kernel_rfl⟩
instance zm4 : Zm cx 4 [.val (.bool false)] := ⟨by kernel_rfl⟩
instance ul9 : Ul cx 9 .string := ⟨Try.underlying9⟩
instance sz9 : Sz cx 9 false 1 := ⟨by kernel_rfl, by kernel_rfl⟩
instance zc9 : Zc cx 9 [.val (.string ⟨#[]⟩)] := ⟨by kernel_rfl⟩
instance zm9 : Zm cx 9 [.val (.string ⟨#[]⟩)] := ⟨by kernel_rfl⟩
instance ul22 : Ul cx 22 (.slice 44) := ⟨Try.underlying22⟩
instance sz22 : Sz cx 22 false 1 := ⟨by kernel_rfl, by kernel_rfl⟩
instance zc22 : Zc cx 22 [.snil] := ⟨by kernel_rfl⟩
instance zm22 : Zm cx 22 [.own [] 0] := ⟨by kernel_rfl⟩
instance sz24 : Sz cx 24 true 1 := ⟨by kernel_rfl, by kernel_rfl⟩
instance zc24 : Zc cx 24 [.snil] := ⟨by kernel_rfl⟩
instance zm24 : Zm cx 24 [.own [] 0] := ⟨by kernel_rfl⟩
instance fd24_0 : Fd cx 24 0 0 1 false := ⟨by kernel_rfl⟩
instance pl24 : Pl cx 24 [(0, 1, false)] := ⟨by kernel_rfl⟩
instance ul25 : Ul cx 25 (.slice 3) := ⟨Try.underlying25⟩
instance sz25 : Sz cx 25 false 1 := ⟨by kernel_rfl, by kernel_rfl⟩
instance zc25 : Zc cx 25 [.snil] := ⟨by kernel_rfl⟩
instance zm25 : Zm cx 25 [.own [] 0] := ⟨by kernel_rfl⟩
instance sz27 : Sz cx 27 true 2 := ⟨by kernel_rfl, by kernel_rfl⟩
instance zc27 : Zc cx 27 [.val (.int .i64 0), .val (.int .i64 0)] := ⟨by kernel_rfl⟩
instance zm27 : Zm cx 27 [.val (.int .i64 0), .val (.int .i64 0)] := ⟨by kernel_rfl⟩
instance fd27_0 : Fd cx 27 0 0 1 false := ⟨by kernel_rfl⟩
instance fd27_1 : Fd cx 27 1 1 1 false := ⟨by kernel_rfl⟩
instance pl27 : Pl cx 27 [(0, 1, false), (1, 1, false)] := ⟨by kernel_rfl⟩
instance sz44 : Sz cx 44 true 6 := ⟨by kernel_rfl, by kernel_rfl⟩
instance zc44 : Zc cx 44 [.val (.int .i64 0), .val (.string ⟨#[]⟩), .val (.int .i64 0), .val (.int .i64 0), .snil, .val (.int .i64 0)] := ⟨by kernel_rfl⟩
instance zm44 : Zm cx 44 [.val (.int .i64 0), .val (.string ⟨#[]⟩), .val (.int .i64 0), .val (.int .i64 0), .own [] 0, .val (.int .i64 0)] := ⟨by kernel_rfl⟩
instance fd44_0 : Fd cx 44 0 0 1 false := ⟨by kernel_rfl⟩
instance fd44_1 : Fd cx 44 1 1 1 false := ⟨by kernel_rfl⟩
instance fd44_2 : Fd cx 44 2 2 1 false := ⟨by kernel_rfl⟩
instance fd44_3 : Fd cx 44 3 3 1 false := ⟨by kernel_rfl⟩
instance fd44_4 : Fd cx 44 4 4 1 false := ⟨by kernel_rfl⟩
instance fd44_5 : Fd cx 44 5 5 1 false := ⟨by kernel_rfl⟩
instance pl44 : Pl cx 44 [(0, 1, false), (1, 1, false), (2, 1, false), (3, 1, false), (4, 1, false), (5, 1, false)] := ⟨by kernel_rfl⟩
instance ul45 : Ul cx 45 (.pointer 49) := ⟨Try.underlying45⟩
instance sz45 : Sz cx 45 false 1 := ⟨by kernel_rfl, by kernel_rfl⟩
instance zc45 : Zc cx 45 [.val (.pointer none)] := ⟨by kernel_rfl⟩
instance zm45 : Zm cx 45 [.val (.pointer none)] := ⟨by kernel_rfl⟩
instance mt46 : Mt cx 46 .string (vI 0) := ⟨by kernel_rfl⟩
instance sz46 : Sz cx 46 false 1 := ⟨by kernel_rfl, by kernel_rfl⟩
instance zc46 : Zc cx 46 [.val (.map none)] := ⟨by kernel_rfl⟩
instance zm46 : Zm cx 46 [.val (.map none)] := ⟨by kernel_rfl⟩
instance ul47 : Ul cx 47 (.slice 46) := ⟨Try.underlying47⟩
instance sz47 : Sz cx 47 false 1 := ⟨by kernel_rfl, by kernel_rfl⟩
instance zc47 : Zc cx 47 [.snil] := ⟨by kernel_rfl⟩
instance zm47 : Zm cx 47 [.own [] 0] := ⟨by kernel_rfl⟩
instance sz49 : Sz cx 49 true 3 := ⟨by kernel_rfl, by kernel_rfl⟩
instance zc49 : Zc cx 49 [.snil, .snil, .snil] := ⟨by kernel_rfl⟩
instance zm49 : Zm cx 49 [.own [] 0, .own [] 0, .own [] 0] := ⟨by kernel_rfl⟩
instance fd49_0 : Fd cx 49 0 0 1 true := ⟨by kernel_rfl⟩
instance fd49_1 : Fd cx 49 1 1 1 false := ⟨by kernel_rfl⟩
instance fd49_2 : Fd cx 49 2 2 1 false := ⟨by kernel_rfl⟩
instance pl49 : Pl cx 49 [(0, 1, true), (1, 1, false), (2, 1, false)] := ⟨by kernel_rfl⟩
instance sz57 : Sz cx 57 true 6 := ⟨by kernel_rfl, by kernel_rfl⟩
instance zc57 : Zc cx 57 [.snil, .snil, .val (.int .i64 0), .val (.int .i64 0), .val (.int .i64 0), .snil] := ⟨by kernel_rfl⟩
instance zm57 : Zm cx 57 [.own [] 0, .own [] 0, .val (.int .i64 0), .val (.int .i64 0), .val (.int .i64 0), .own [] 0] := ⟨by kernel_rfl⟩
instance fd57_0 : Fd cx 57 0 0 1 false := ⟨by kernel_rfl⟩
instance fd57_1 : Fd cx 57 1 1 1 false := ⟨by kernel_rfl⟩
instance fd57_2 : Fd cx 57 2 2 1 false := ⟨by kernel_rfl⟩
instance fd57_3 : Fd cx 57 3 3 2 true := ⟨by kernel_rfl⟩
instance fd57_4 : Fd cx 57 4 5 1 false := ⟨by kernel_rfl⟩
instance pl57 : Pl cx 57 [(0, 1, false), (1, 1, false), (2, 1, false), (3, 2, true), (5, 1, false)] := ⟨by kernel_rfl⟩
instance sz76 : Sz cx 76 true 2 := ⟨by kernel_rfl, by kernel_rfl⟩
instance zc76 : Zc cx 76 [.snil, .snil] := ⟨by kernel_rfl⟩
instance zm76 : Zm cx 76 [.own [] 0, .own [] 0] := ⟨by kernel_rfl⟩
instance fd76_0 : Fd cx 76 0 0 1 true := ⟨by kernel_rfl⟩
instance fd76_1 : Fd cx 76 1 1 1 false := ⟨by kernel_rfl⟩
instance pl76 : Pl cx 76 [(0, 1, true), (1, 1, false)] := ⟨by kernel_rfl⟩
instance sz104 : Sz cx 104 true 2 := ⟨by kernel_rfl, by kernel_rfl⟩
instance zc104 : Zc cx 104 [.val (.int .i64 0), .val (.bool false)] := ⟨by kernel_rfl⟩
instance zm104 : Zm cx 104 [.val (.int .i64 0), .val (.bool false)] := ⟨by kernel_rfl⟩
instance fd104_0 : Fd cx 104 0 0 1 false := ⟨by kernel_rfl⟩
instance fd104_1 : Fd cx 104 1 1 1 false := ⟨by kernel_rfl⟩
instance pl104 : Pl cx 104 [(0, 1, false), (1, 1, false)] := ⟨by kernel_rfl⟩
instance ul110 : Ul cx 110 (.slice 9) := ⟨Try.underlying110⟩
instance sz110 : Sz cx 110 false 1 := ⟨by kernel_rfl, by kernel_rfl⟩
instance zc110 : Zc cx 110 [.snil] := ⟨by kernel_rfl⟩
instance zm110 : Zm cx 110 [.own [] 0] := ⟨by kernel_rfl⟩
instance ao3 : Ao cx 3 1 := ⟨by kernel_rfl⟩
instance ao46 : Ao cx 46 1 := ⟨by kernel_rfl⟩
structure XApi_Node where
 Kind : Int
 Text : ByteArray
 N : Int
 Size : Int
 Kids : (List Int)
 At : Int
 deriving DecidableEq, Inhabited
structure XApi_Tree where
 Nodes : (List XApi_Node)
 deriving DecidableEq, Inhabited
structure XApi_Fault where
 Code : Int
 At : Int
 deriving DecidableEq, Inhabited
structure XTree_checker where
 t : XApi_Tree
 first : (List Int)
 deriving DecidableEq, Inhabited
structure XAst_Two where
 Op : Int
 Turn : Bool
 deriving DecidableEq, Inhabited
structure XScope_finder where
 t : XApi_Tree
 out : (List Int)
 room : ((List (List (ByteArray × Int))) × Nat)
 deriving DecidableEq, Inhabited
structure XTurneryref1_Rooms where
 Has : (List Int)
 Room : (List Int)
 Now : Int
 Bad : XApi_Fault
 Of : (List Int)
 deriving DecidableEq, Inhabited
def cInt_i64 (x : Int) : List AV := [(I x)]
instance : Fl cInt_i64 := ⟨fun x => rfl⟩
instance : Imm cInt_i64 := ⟨fun x => rfl, fun x => rfl⟩
instance : Fz cInt_i64 cInt_i64 := ⟨fun x => rfl⟩
instance : Mi cInt_i64 := ⟨fun x => rfl⟩
def cXApi_Node (x : XApi_Node) : List AV := [(I x.Kind), (AV.val (.string x.Text)), (I x.N), (I x.Size), (.sl ((x.Kids).map cInt_i64)), (I x.At)]
instance : Fl cXApi_Node := ⟨fun x => rfl⟩
instance : Imm cXApi_Node := ⟨fun x => rfl, fun x => rfl⟩
instance : Fz cXApi_Node cXApi_Node := ⟨fun x => rfl⟩
def cXApi_Tree (x : XApi_Tree) : List AV := [(.sl ((x.Nodes).map cXApi_Node))]
instance : Fl cXApi_Tree := ⟨fun x => rfl⟩
instance : Imm cXApi_Tree := ⟨fun x => rfl, fun x => rfl⟩
instance : Fz cXApi_Tree cXApi_Tree := ⟨fun x => rfl⟩
def cXApi_Fault (x : XApi_Fault) : List AV := [(I x.Code), (I x.At)]
instance : Fl cXApi_Fault := ⟨fun x => rfl⟩
instance : Imm cXApi_Fault := ⟨fun x => rfl, fun x => rfl⟩
instance : Fz cXApi_Fault cXApi_Fault := ⟨fun x => rfl⟩
instance : Mi cXApi_Fault := ⟨fun x => rfl⟩
def cXTree_checker (x : XTree_checker) : List AV := [(.sl ((x.t.Nodes).map cXApi_Node)), (.sl ((x.first).map cInt_i64))]
instance : Fl cXTree_checker := ⟨fun x => rfl⟩
instance : Imm cXTree_checker := ⟨fun x => rfl, fun x => rfl⟩
instance : Fz cXTree_checker cXTree_checker := ⟨fun x => rfl⟩
def cXTree_checker_SIOe (x : XTree_checker) : List AV := [(.sl ((x.t.Nodes).map cXApi_Node)), (.own ((x.first).map cInt_i64) (x.first).length)]
instance : Fl cXTree_checker_SIOe := ⟨fun x => by simp only [cXTree_checker_SIOe, flatL_cons, flatL_nil, flat_own, flat_val, flat_sl, flat_om, flat_im, Bool.and_true, Bool.and_self, fl_map]⟩
instance : Fz cXTree_checker_SIOe cXTree_checker := ⟨fun x => by simp only [cXTree_checker_SIOe, cXTree_checker]; repeat' (first | exact (rfl : fzL [] = []) | (apply fzC; exact fzk))⟩
instance : Bw cXTree_checker_SIOe cXTree_checker := ⟨fun L n x => by simp only [cXTree_checker_SIOe, cXTree_checker]; exact bwck, fun x => rfl⟩
def cXAst_Two (x : XAst_Two) : List AV := [(I x.Op), (B x.Turn)]
instance : Fl cXAst_Two := ⟨fun x => rfl⟩
instance : Imm cXAst_Two := ⟨fun x => rfl, fun x => rfl⟩
instance : Fz cXAst_Two cXAst_Two := ⟨fun x => rfl⟩
instance : Mi cXAst_Two := ⟨fun x => rfl⟩
def cStr (x : ByteArray) : List AV := [(AV.val (.string x))]
instance : Fl cStr := ⟨fun x => rfl⟩
instance : Imm cStr := ⟨fun x => rfl, fun x => rfl⟩
instance : Fz cStr cStr := ⟨fun x => rfl⟩
instance : Mi cStr := ⟨fun x => rfl⟩
def cm_vSvI (x : (List (ByteArray × Int))) : List AV := [(.im ((x).map (mE vS vI)))]
instance : Fl cm_vSvI := ⟨fun x => rfl⟩
instance : Imm cm_vSvI := ⟨fun x => rfl, fun x => rfl⟩
instance : Fz cm_vSvI cm_vSvI := ⟨fun x => rfl⟩
def cw_vSvI (x : (List (ByteArray × Int))) : List AV := [(.om ((x).map (mE vS vI)))]
instance : Fl cw_vSvI := ⟨fun x => by simp only [cw_vSvI, flatL_cons, flatL_nil, flat_own, flat_val, flat_sl, flat_om, flat_im, Bool.and_true, Bool.and_self, fl_map]⟩
instance : Fz cw_vSvI cm_vSvI := ⟨fun x => by simp only [cw_vSvI, cm_vSvI]; repeat' (first | exact (rfl : fzL [] = []) | (apply fzC; exact fzk))⟩
instance : Mi cw_vSvI := ⟨fun x => by simp only [cw_vSvI]; repeat' (first | (with_reducible exact miN) | (with_reducible apply miC) | exact mik)⟩
instance : Bw cw_vSvI cm_vSvI := ⟨fun L n x => by simp only [cw_vSvI, cm_vSvI]; exact bwck, fun x => rfl⟩
def cXScope_finder (x : XScope_finder) : List AV := [(.sl ((x.t.Nodes).map cXApi_Node)), (.sl ((x.out).map cInt_i64)), (.sl (((List.take x.room.2 x.room.1)).map cm_vSvI))]
instance : Fl cXScope_finder := ⟨fun x => rfl⟩
instance : Imm cXScope_finder := ⟨fun x => rfl, fun x => rfl⟩
instance : Fz cXScope_finder cXScope_finder := ⟨fun x => rfl⟩
def cXScope_finder_SIOLMe (x : XScope_finder) : List AV := [(.sl ((x.t.Nodes).map cXApi_Node)), (.own ((x.out).map cInt_i64) (x.out).length), (.own ((x.room).1.map cw_vSvI) (x.room).2)]
instance : Fl cXScope_finder_SIOLMe := ⟨fun x => by simp only [cXScope_finder_SIOLMe, flatL_cons, flatL_nil, flat_own, flat_val, flat_sl, flat_om, flat_im, Bool.and_true, Bool.and_self, fl_map]⟩
instance : Fz cXScope_finder_SIOLMe cXScope_finder := ⟨fun x => by simp only [cXScope_finder_SIOLMe, cXScope_finder]; repeat' (first | exact (rfl : fzL [] = []) | (apply fzC; exact fzk))⟩
def cXTurneryref1_Rooms (x : XTurneryref1_Rooms) : List AV := [(.sl ((x.Has).map cInt_i64)), (.sl ((x.Room).map cInt_i64)), (I x.Now), (I x.Bad.Code), (I x.Bad.At), (.sl ((x.Of).map cInt_i64))]
instance : Fl cXTurneryref1_Rooms := ⟨fun x => rfl⟩
instance : Imm cXTurneryref1_Rooms := ⟨fun x => rfl, fun x => rfl⟩
instance : Fz cXTurneryref1_Rooms cXTurneryref1_Rooms := ⟨fun x => rfl⟩
def cXTurneryref1_Rooms_SIIIIOe (x : XTurneryref1_Rooms) : List AV := [(.sl ((x.Has).map cInt_i64)), (.sl ((x.Room).map cInt_i64)), (I x.Now), (I x.Bad.Code), (I x.Bad.At), (.own ((x.Of).map cInt_i64) (x.Of).length)]
instance : Fl cXTurneryref1_Rooms_SIIIIOe := ⟨fun x => by simp only [cXTurneryref1_Rooms_SIIIIOe, flatL_cons, flatL_nil, flat_own, flat_val, flat_sl, flat_om, flat_im, Bool.and_true, Bool.and_self, fl_map]⟩
instance : Fz cXTurneryref1_Rooms_SIIIIOe cXTurneryref1_Rooms := ⟨fun x => by simp only [cXTurneryref1_Rooms_SIIIIOe, cXTurneryref1_Rooms]; repeat' (first | exact (rfl : fzL [] = []) | (apply fzC; exact fzk))⟩
instance : Bw cXTurneryref1_Rooms_SIIIIOe cXTurneryref1_Rooms := ⟨fun L n x => by simp only [cXTurneryref1_Rooms_SIIIIOe, cXTurneryref1_Rooms]; exact bwck, fun x => rfl⟩
def cXTurneryref1_Rooms_SOOIIOe (x : XTurneryref1_Rooms) : List AV := [(.own ((x.Has).map cInt_i64) (x.Has).length), (.own ((x.Room).map cInt_i64) (x.Room).length), (I x.Now), (I x.Bad.Code), (I x.Bad.At), (.own ((x.Of).map cInt_i64) (x.Of).length)]
instance : Fl cXTurneryref1_Rooms_SOOIIOe := ⟨fun x => by simp only [cXTurneryref1_Rooms_SOOIIOe, flatL_cons, flatL_nil, flat_own, flat_val, flat_sl, flat_om, flat_im, Bool.and_true, Bool.and_self, fl_map]⟩
instance : Fz cXTurneryref1_Rooms_SOOIIOe cXTurneryref1_Rooms := ⟨fun x => by simp only [cXTurneryref1_Rooms_SOOIIOe, cXTurneryref1_Rooms]; repeat' (first | exact (rfl : fzL [] = []) | (apply fzC; exact fzk))⟩
instance : Mi cXTurneryref1_Rooms_SOOIIOe := ⟨fun x => by simp only [cXTurneryref1_Rooms_SOOIIOe]; repeat' (first | (with_reducible exact miN) | (with_reducible apply miC) | exact mik)⟩
instance : Bw cXTurneryref1_Rooms_SOOIIOe cXTurneryref1_Rooms := ⟨fun L n x => by simp only [cXTurneryref1_Rooms_SOOIIOe, cXTurneryref1_Rooms]; exact bwck, fun x => rfl⟩
theorem eq27_eql (x y : Operand) {p0 q0 : Int} {p1 q1 : Int} : binV cx.P .eql 27 x y (.agg ⟨[.int .i64 p0, .int .i64 p1]⟩) (.agg ⟨[.int .i64 q0, .int .i64 q1]⟩) = some (.bool ((p0 == q0) && ((p1 == q1) && true))) :=
 bin_eqlStruct (P := Try.prog) Try.underlying27 Try.stoodInHeld27 Try.eqGuardType27 (by simp [eqL, Try.underlying3, fits, scEq])
theorem eq27_neq (x y : Operand) {p0 q0 : Int} {p1 q1 : Int} : binV cx.P .neq 27 x y (.agg ⟨[.int .i64 p0, .int .i64 p1]⟩) (.agg ⟨[.int .i64 q0, .int .i64 q1]⟩) = some (.bool (!((p0 == q0) && ((p1 == q1) && true)))) :=
 bin_neqStruct (P := Try.prog) Try.underlying27 Try.stoodInHeld27 Try.eqGuardType27 (by simp [eqL, Try.underlying3, fits, scEq])
end Go.Ab
