/-
  The types of the program as plain data, and how they stand as abstract values (written by gen3.py).
-/
import Derived.Test.YtkgjhnmpcnjooaaDoorAbCx
namespace Go.Ab
open Go Go.Proofs
variable [MM]
instance ul2 : Ul cx 2 (.int .i64) := ⟨Tryd.underlying2⟩
instance sz2 : Sz cx 2 false 1 := ⟨by kernel_rfl, by kernel_rfl⟩
instance zc2 : Zc cx 2 [.val (.int .i64 0)] := ⟨by kernel_rfl⟩
instance zm2 : Zm cx 2 [.val (.int .i64 0)] := ⟨by kernel_rfl⟩
instance ul3 : Ul cx 3 (.int .i64) := ⟨Tryd.underlying3⟩
instance sz3 : Sz cx 3 false 1 := ⟨by kernel_rfl, by kernel_rfl⟩
instance zc3 : Zc cx 3 [.val (.int .i64 0)] := ⟨by kernel_rfl⟩
instance zm3 : Zm cx 3 [.val (.int .i64 0)] := ⟨by kernel_rfl⟩
instance ul5 : Ul cx 5 (.int .u8) := ⟨Tryd.underlying5⟩
instance sz5 : Sz cx 5 false 1 := ⟨by kernel_rfl, by kernel_rfl⟩
instance zc5 : Zc cx 5 [.val (.int .u8 0)] := ⟨by kernel_rfl⟩
instance zm5 : Zm cx 5 [.val (.int .u8 0)] := ⟨by kernel_rfl⟩
instance ul9 : Ul cx 9 .string := ⟨Tryd.underlying9⟩
instance sz9 : Sz cx 9 false 1 := ⟨by kernel_rfl, by kernel_rfl⟩
instance zc9 : Zc cx 9 [.val (.string ⟨#[]⟩)] := ⟨by kernel_rfl⟩
instance zm9 : Zm cx 9 [.val (.string ⟨#[]⟩)] := ⟨by kernel_rfl⟩
instance ul22 : Ul cx 22 (.slice 36) := ⟨Tryd.underlying22⟩
instance sz22 : Sz cx 22 false 1 := ⟨by kernel_rfl, by kernel_rfl⟩
instance zc22 : Zc cx 22 [.snil] := ⟨by kernel_rfl⟩
instance zm22 : Zm cx 22 [.own []] := ⟨by kernel_rfl⟩
instance sz24 : Sz cx 24 true 2 := ⟨by kernel_rfl, by kernel_rfl⟩
instance zc24 : Zc cx 24 [.val (.int .i64 0), .val (.int .i64 0)] := ⟨by kernel_rfl⟩
instance zm24 : Zm cx 24 [.val (.int .i64 0), .val (.int .i64 0)] := ⟨by kernel_rfl⟩
instance fd24_0 : Fd cx 24 0 0 1 false := ⟨by kernel_rfl⟩
instance fd24_1 : Fd cx 24 1 1 1 false := ⟨by kernel_rfl⟩
instance pl24 : Pl cx 24 [(0, 1, false), (1, 1, false)] := ⟨by kernel_rfl⟩
instance sz36 : Sz cx 36 true 4 := ⟨by kernel_rfl, by kernel_rfl⟩
instance zc36 : Zc cx 36 [.val (.int .i64 0), .val (.string ⟨#[]⟩), .val (.int .i64 0), .val (.int .i64 0)] := ⟨by kernel_rfl⟩
instance zm36 : Zm cx 36 [.val (.int .i64 0), .val (.string ⟨#[]⟩), .val (.int .i64 0), .val (.int .i64 0)] := ⟨by kernel_rfl⟩
instance fd36_0 : Fd cx 36 0 0 1 false := ⟨by kernel_rfl⟩
instance fd36_1 : Fd cx 36 1 1 1 false := ⟨by kernel_rfl⟩
instance fd36_2 : Fd cx 36 2 2 1 false := ⟨by kernel_rfl⟩
instance fd36_3 : Fd cx 36 3 3 1 false := ⟨by kernel_rfl⟩
instance pl36 : Pl cx 36 [(0, 1, false), (1, 1, false), (2, 1, false), (3, 1, false)] := ⟨by kernel_rfl⟩
instance ul45 : Ul cx 45 (.slice 9) := ⟨Tryd.underlying45⟩
instance sz45 : Sz cx 45 false 1 := ⟨by kernel_rfl, by kernel_rfl⟩
instance zc45 : Zc cx 45 [.snil] := ⟨by kernel_rfl⟩
instance zm45 : Zm cx 45 [.own []] := ⟨by kernel_rfl⟩
instance ul57 : Ul cx 57 (.slice 5) := ⟨Tryd.underlying57⟩
instance sz57 : Sz cx 57 false 1 := ⟨by kernel_rfl, by kernel_rfl⟩
instance zc57 : Zc cx 57 [.snil] := ⟨by kernel_rfl⟩
instance zm57 : Zm cx 57 [.own []] := ⟨by kernel_rfl⟩
instance ul62 : Ul cx 62 (.interface #[("Error", 65)]) := ⟨Tryd.underlying62⟩
instance sz62 : Sz cx 62 false 1 := ⟨by kernel_rfl, by kernel_rfl⟩
instance zc62 : Zc cx 62 [.val .nilIface] := ⟨by kernel_rfl⟩
instance zm62 : Zm cx 62 [.val .nilIface] := ⟨by kernel_rfl⟩
instance ul66 : Ul cx 66 (.array 13 9) := ⟨Tryd.underlying66⟩
instance sz66 : Sz cx 66 true 13 := ⟨by kernel_rfl, by kernel_rfl⟩
instance zc66 : Zc cx 66 [.val (.string ⟨#[]⟩), .val (.string ⟨#[]⟩), .val (.string ⟨#[]⟩), .val (.string ⟨#[]⟩), .val (.string ⟨#[]⟩), .val (.string ⟨#[]⟩), .val (.string ⟨#[]⟩), .val (.string ⟨#[]⟩), .val (.string ⟨#[]⟩), .val (.string ⟨#[]⟩), .val (.string ⟨#[]⟩), .val (.string ⟨#[]⟩), .val (.string ⟨#[]⟩)] := ⟨by kernel_rfl⟩
instance zm66 : Zm cx 66 [.val (.string ⟨#[]⟩), .val (.string ⟨#[]⟩), .val (.string ⟨#[]⟩), .val (.string ⟨#[]⟩), .val (.string ⟨#[]⟩), .val (.string ⟨#[]⟩), .val (.string ⟨#[]⟩), .val (.string ⟨#[]⟩), .val (.string ⟨#[]⟩), .val (.string ⟨#[]⟩), .val (.string ⟨#[]⟩), .val (.string ⟨#[]⟩), .val (.string ⟨#[]⟩)] := ⟨by kernel_rfl⟩
instance ul71 : Ul cx 71 (.array 43 9) := ⟨Tryd.underlying71⟩
instance sz71 : Sz cx 71 true 43 := ⟨by kernel_rfl, by kernel_rfl⟩
instance zc71 : Zc cx 71 [.val (.string ⟨#[]⟩), .val (.string ⟨#[]⟩), .val (.string ⟨#[]⟩), .val (.string ⟨#[]⟩), .val (.string ⟨#[]⟩), .val (.string ⟨#[]⟩), .val (.string ⟨#[]⟩), .val (.string ⟨#[]⟩), .val (.string ⟨#[]⟩), .val (.string ⟨#[]⟩), .val (.string ⟨#[]⟩), .val (.string ⟨#[]⟩), .val (.string ⟨#[]⟩), .val (.string ⟨#[]⟩), .val (.string ⟨#[]⟩), .val (.string ⟨#[]⟩), .val (.string ⟨#[]⟩), .val (.string ⟨#[]⟩), .val (.string ⟨#[]⟩), .val (.string ⟨#[]⟩), .val (.string ⟨#[]⟩), .val (.string ⟨#[]⟩), .val (.string ⟨#[]⟩), .val (.string ⟨#[]⟩), .val (.string ⟨#[]⟩), .val (.string ⟨#[]⟩), .val (.string ⟨#[]⟩), .val (.string ⟨#[]⟩), .val (.string ⟨#[]⟩), .val (.string ⟨#[]⟩), .val (.string ⟨#[]⟩), .val (.string ⟨#[]⟩), .val (.string ⟨#[]⟩), .val (.string ⟨#[]⟩), .val (.string ⟨#[]⟩), .val (.string ⟨#[]⟩), .val (.string ⟨#[]⟩), .val (.string ⟨#[]⟩), .val (.string ⟨#[]⟩), .val (.string ⟨#[]⟩), .val (.string ⟨#[]⟩), .val (.string ⟨#[]⟩), .val (.string ⟨#[]⟩)] := ⟨by kernel_rfl⟩
instance zm71 : Zm cx 71 [.val (.string ⟨#[]⟩), .val (.string ⟨#[]⟩), .val (.string ⟨#[]⟩), .val (.string ⟨#[]⟩), .val (.string ⟨#[]⟩), .val (.string ⟨#[]⟩), .val (.string ⟨#[]⟩), .val (.string ⟨#[]⟩), .val (.string ⟨#[]⟩), .val (.string ⟨#[]⟩), .val (.string ⟨#[]⟩), .val (.string ⟨#[]⟩), .val (.string ⟨#[]⟩), .val (.string ⟨#[]⟩), .val (.string ⟨#[]⟩), .val (.string ⟨#[]⟩), .val (.string ⟨#[]⟩), .val (.string ⟨#[]⟩), .val (.string ⟨#[]⟩), .val (.string ⟨#[]⟩), .val (.string ⟨#[]⟩), .val (.string ⟨#[]⟩), .val (.string ⟨#[]⟩), .val (.string ⟨#[]⟩), .val (.string ⟨#[]⟩), .val (.string ⟨#[]⟩), .val (.string ⟨#[]⟩), .val (.string ⟨#[]⟩), .val (.string ⟨#[]⟩), .val (.string ⟨#[]⟩), .val (.string ⟨#[]⟩), .val (.string ⟨#[]⟩), .val (.string ⟨#[]⟩), .val (.string ⟨#[]⟩), .val (.string ⟨#[]⟩), .val (.string ⟨#[]⟩), .val (.string ⟨#[]⟩), .val (.string ⟨#[]⟩), .val (.string ⟨#[]⟩), .val (.string ⟨#[]⟩), .val (.string ⟨#[]⟩), .val (.string ⟨#[]⟩), .val (.string ⟨#[]⟩)] := ⟨by kernel_rfl⟩
instance ul77 : Ul cx 77 (.int .u64) := ⟨Tryd.underlying77⟩
instance sz77 : Sz cx 77 false 1 := ⟨by kernel_rfl, by kernel_rfl⟩
instance zc77 : Zc cx 77 [.val (.int .u64 0)] := ⟨by kernel_rfl⟩
instance zm77 : Zm cx 77 [.val (.int .u64 0)] := ⟨by kernel_rfl⟩
instance ul85 : Ul cx 85 (.int .i64) := ⟨Tryd.underlying85⟩
instance cb85 : Cb cx 85 := ⟨by kernel_rfl⟩
instance sz85 : Sz cx 85 false 1 := ⟨by kernel_rfl, by kernel_rfl⟩
instance zc85 : Zc cx 85 [.val (.int .i64 0)] := ⟨by kernel_rfl⟩
instance zm85 : Zm cx 85 [.val (.int .i64 0)] := ⟨by kernel_rfl⟩
instance ul86 : Ul cx 86 (.int .u64) := ⟨Tryd.underlying86⟩
instance sz86 : Sz cx 86 false 1 := ⟨by kernel_rfl, by kernel_rfl⟩
instance zc86 : Zc cx 86 [.val (.int .u64 0)] := ⟨by kernel_rfl⟩
instance zm86 : Zm cx 86 [.val (.int .u64 0)] := ⟨by kernel_rfl⟩
instance ul89 : Ul cx 89 (.pointer 94) := ⟨Tryd.underlying89⟩
instance sz89 : Sz cx 89 false 1 := ⟨by kernel_rfl, by kernel_rfl⟩
instance zc89 : Zc cx 89 [.val (.pointer none)] := ⟨by kernel_rfl⟩
instance zm89 : Zm cx 89 [.val (.pointer none)] := ⟨by kernel_rfl⟩
instance sz94 : Sz cx 94 true 3 := ⟨by kernel_rfl, by kernel_rfl⟩
instance zc94 : Zc cx 94 [.val (.string ⟨#[]⟩), .val (.string ⟨#[]⟩), .val .nilIface] := ⟨by kernel_rfl⟩
instance zm94 : Zm cx 94 [.val (.string ⟨#[]⟩), .val (.string ⟨#[]⟩), .val .nilIface] := ⟨by kernel_rfl⟩
instance fd94_0 : Fd cx 94 0 0 1 false := ⟨by kernel_rfl⟩
instance fd94_1 : Fd cx 94 1 1 1 false := ⟨by kernel_rfl⟩
instance fd94_2 : Fd cx 94 2 2 1 false := ⟨by kernel_rfl⟩
instance pl94 : Pl cx 94 [(0, 1, false), (1, 1, false), (2, 1, false)] := ⟨by kernel_rfl⟩
instance ao9 : Ao cx 9 1 := ⟨by kernel_rfl⟩
instance ao36 : Ao cx 36 4 := ⟨by kernel_rfl⟩
structure XApi_Token where
 Kind : Int
 Text : ByteArray
 N : Int
 At : Int
 deriving DecidableEq, Inhabited
structure XApi_Fault where
 Code : Int
 At : Int
 deriving DecidableEq, Inhabited
structure XStrconv_NumError where
 Func : ByteArray
 Num : ByteArray
 Err : Er
 deriving DecidableEq, Inhabited
def cXApi_Fault (x : XApi_Fault) : List AV := [(I x.Code), (I x.At)]
instance : Fl cXApi_Fault := ⟨fun x => rfl⟩
instance : Imm cXApi_Fault := ⟨fun x => rfl, fun x => rfl⟩
instance : Fz cXApi_Fault cXApi_Fault := ⟨fun x => rfl⟩
instance : Mi cXApi_Fault := ⟨fun x => rfl⟩
def cInt_u8 (x : Int) : List AV := [(AV.val (.int .u8 x))]
instance : Fl cInt_u8 := ⟨fun x => rfl⟩
instance : Imm cInt_u8 := ⟨fun x => rfl, fun x => rfl⟩
instance : Fz cInt_u8 cInt_u8 := ⟨fun x => rfl⟩
instance : Mi cInt_u8 := ⟨fun x => rfl⟩
def cXStrconv_NumError (x : XStrconv_NumError) : List AV := [(AV.val (.string x.Func)), (AV.val (.string x.Num)), (erV 85 x.Err)]
instance : Fl cXStrconv_NumError := ⟨fun x => by unfold cXStrconv_NumError; cases x.Err <;> rfl⟩
instance : Imm cXStrconv_NumError := ⟨fun x => by unfold cXStrconv_NumError; cases x.Err <;> rfl, fun x => by unfold cXStrconv_NumError; cases x.Err <;> rfl⟩
instance : Fz cXStrconv_NumError cXStrconv_NumError := ⟨fun x => by unfold cXStrconv_NumError; cases x.Err <;> rfl⟩
instance : Mi cXStrconv_NumError := ⟨fun x => by unfold cXStrconv_NumError; cases x.Err <;> rfl⟩
def cXApi_Token (x : XApi_Token) : List AV := [(I x.Kind), (AV.val (.string x.Text)), (I x.N), (I x.At)]
instance : Fl cXApi_Token := ⟨fun x => rfl⟩
instance : Imm cXApi_Token := ⟨fun x => rfl, fun x => rfl⟩
instance : Fz cXApi_Token cXApi_Token := ⟨fun x => rfl⟩
instance : Mi cXApi_Token := ⟨fun x => rfl⟩
def cStr (x : ByteArray) : List AV := [(AV.val (.string x))]
instance : Fl cStr := ⟨fun x => rfl⟩
instance : Imm cStr := ⟨fun x => rfl, fun x => rfl⟩
instance : Fz cStr cStr := ⟨fun x => rfl⟩
instance : Mi cStr := ⟨fun x => rfl⟩
theorem eq24_eql (x y : Operand) {p0 q0 : Int} {p1 q1 : Int} : binV cx.P .eql 24 x y (.agg ⟨[.int .i64 p0, .int .i64 p1]⟩) (.agg ⟨[.int .i64 q0, .int .i64 q1]⟩) = some (.bool ((p0 == q0) && ((p1 == q1) && true))) :=
 bin_eqlStruct (P := Tryd.prog) Tryd.underlying24 Tryd.stoodInHeld24 Tryd.eqGuardType24 (by simp [eqL, Tryd.underlying3, fits, scEq])
theorem eq24_neq (x y : Operand) {p0 q0 : Int} {p1 q1 : Int} : binV cx.P .neq 24 x y (.agg ⟨[.int .i64 p0, .int .i64 p1]⟩) (.agg ⟨[.int .i64 q0, .int .i64 q1]⟩) = some (.bool (!((p0 == q0) && ((p1 == q1) && true)))) :=
 bin_neqStruct (P := Tryd.prog) Tryd.underlying24 Tryd.stoodInHeld24 Tryd.eqGuardType24 (by simp [eqL, Tryd.underlying3, fits, scEq])
theorem eq36_eql (x y : Operand) {p0 q0 : Int} {p1 q1 : ByteArray} {p2 q2 : Int} {p3 q3 : Int} : binV cx.P .eql 36 x y (.agg ⟨[.int .i64 p0, .string p1, .int .i64 p2, .int .i64 p3]⟩) (.agg ⟨[.int .i64 q0, .string q1, .int .i64 q2, .int .i64 q3]⟩) = some (.bool ((p0 == q0) && ((p1.toList == q1.toList) && ((p2 == q2) && ((p3 == q3) && true))))) :=
 bin_eqlStruct (P := Tryd.prog) Tryd.underlying36 Tryd.stoodInHeld36 Tryd.eqGuardType36 (by simp [eqL, Tryd.underlying3, Tryd.underlying9, fits, scEq])
theorem eq36_neq (x y : Operand) {p0 q0 : Int} {p1 q1 : ByteArray} {p2 q2 : Int} {p3 q3 : Int} : binV cx.P .neq 36 x y (.agg ⟨[.int .i64 p0, .string p1, .int .i64 p2, .int .i64 p3]⟩) (.agg ⟨[.int .i64 q0, .string q1, .int .i64 q2, .int .i64 q3]⟩) = some (.bool (!((p0 == q0) && ((p1.toList == q1.toList) && ((p2 == q2) && ((p3 == q3) && true)))))) :=
 bin_neqStruct (P := Tryd.prog) Tryd.underlying36 Tryd.stoodInHeld36 Tryd.eqGuardType36 (by simp [eqL, Tryd.underlying3, Tryd.underlying9, fits, scEq])
end Go.Ab
