/-
  The types of the program as plain data, and how they stand as abstract values (written by gen3.py).
-/
import Derived.Test.YtfciindiplokgaaDoorAbCx
namespace Go.Ab
open Go Go.Proofs
instance ul3 : Ul cx 3 (.int .i64) := ⟨Tryd.underlying3⟩
instance sz3 : Sz cx 3 false 1 := ⟨by kernel_rfl, by kernel_rfl⟩
instance zc3 : Zc cx 3 [.val (.int .i64 0)] := ⟨by kernel_rfl⟩
instance zm3 : Zm cx 3 [.val (.int .i64 0)] := ⟨by kernel_rfl⟩
instance sz4 : Sz cx 4 false 1 := ⟨by kernel_rfl, by kernel_rfl⟩
instance zm4 : Zm cx 4 [.val (.bool false)] := ⟨by kernel_rfl⟩
instance ul9 : Ul cx 9 .string := ⟨Tryd.underlying9⟩
instance sz9 : Sz cx 9 false 1 := ⟨by kernel_rfl, by kernel_rfl⟩
instance zc9 : Zc cx 9 [.val (.string ⟨#[]⟩)] := ⟨by kernel_rfl⟩
instance ul22 : Ul cx 22 (.slice 68) := ⟨Tryd.underlying22⟩
instance sz22 : Sz cx 22 false 1 := ⟨by kernel_rfl, by kernel_rfl⟩
instance ul23 : Ul cx 23 (.slice 50) := ⟨Tryd.underlying23⟩
instance sz23 : Sz cx 23 false 1 := ⟨by kernel_rfl, by kernel_rfl⟩
instance sz25 : Sz cx 25 true 2 := ⟨by kernel_rfl, by kernel_rfl⟩
instance zc25 : Zc cx 25 [.snil, .snil] := ⟨by kernel_rfl⟩
instance zm25 : Zm cx 25 [.own [] 0, .own [] 0] := ⟨by kernel_rfl⟩
instance fd25_0 : Fd cx 25 0 0 1 false := ⟨by kernel_rfl⟩
instance fd25_1 : Fd cx 25 1 1 1 false := ⟨by kernel_rfl⟩
instance pl25 : Pl cx 25 [(0, 1, false), (1, 1, false)] := ⟨by kernel_rfl⟩
instance ul26 : Ul cx 26 (.slice 3) := ⟨Tryd.underlying26⟩
instance sz26 : Sz cx 26 false 1 := ⟨by kernel_rfl, by kernel_rfl⟩
instance zc26 : Zc cx 26 [.snil] := ⟨by kernel_rfl⟩
instance zm26 : Zm cx 26 [.own [] 0] := ⟨by kernel_rfl⟩
instance sz29 : Sz cx 29 true 2 := ⟨by kernel_rfl, by kernel_rfl⟩
instance zc29 : Zc cx 29 [.val (.int .i64 0), .val (.int .i64 0)] := ⟨by kernel_rfl⟩
instance zm29 : Zm cx 29 [.val (.int .i64 0), .val (.int .i64 0)] := ⟨by kernel_rfl⟩
instance fd29_0 : Fd cx 29 0 0 1 false := ⟨by kernel_rfl⟩
instance pl29 : Pl cx 29 [(0, 1, false), (1, 1, false)] := ⟨by kernel_rfl⟩
instance sz34 : Sz cx 34 true 4 := ⟨by kernel_rfl, by kernel_rfl⟩
instance zc34 : Zc cx 34 [.val (.int .i64 0), .val (.int .i64 0), .snil, .val (.int .i64 0)] := ⟨by kernel_rfl⟩
instance zm34 : Zm cx 34 [.val (.int .i64 0), .val (.int .i64 0), .own [] 0, .val (.int .i64 0)] := ⟨by kernel_rfl⟩
instance fd34_0 : Fd cx 34 0 0 1 false := ⟨by kernel_rfl⟩
instance fd34_1 : Fd cx 34 1 1 1 false := ⟨by kernel_rfl⟩
instance fd34_2 : Fd cx 34 2 2 1 false := ⟨by kernel_rfl⟩
instance fd34_3 : Fd cx 34 3 3 1 false := ⟨by kernel_rfl⟩
instance pl34 : Pl cx 34 [(0, 1, false), (1, 1, false), (2, 1, false), (3, 1, false)] := ⟨by kernel_rfl⟩
instance ul37 : Ul cx 37 (.slice 26) := ⟨Tryd.underlying37⟩
instance sz37 : Sz cx 37 false 1 := ⟨by kernel_rfl, by kernel_rfl⟩
instance zc37 : Zc cx 37 [.snil] := ⟨by kernel_rfl⟩
instance ul48 : Ul cx 48 (.slice 58) := ⟨Tryd.underlying48⟩
instance sz48 : Sz cx 48 false 1 := ⟨by kernel_rfl, by kernel_rfl⟩
instance sz50 : Sz cx 50 true 4 := ⟨by kernel_rfl, by kernel_rfl⟩
instance zc50 : Zc cx 50 [.val (.string ⟨#[]⟩), .val (.int .i64 0), .val (.int .i64 0), .snil] := ⟨by kernel_rfl⟩
instance zm50 : Zm cx 50 [.val (.string ⟨#[]⟩), .val (.int .i64 0), .val (.int .i64 0), .own [] 0] := ⟨by kernel_rfl⟩
instance fd50_0 : Fd cx 50 0 0 1 false := ⟨by kernel_rfl⟩
instance fd50_1 : Fd cx 50 1 1 1 false := ⟨by kernel_rfl⟩
instance fd50_2 : Fd cx 50 2 2 1 false := ⟨by kernel_rfl⟩
instance fd50_3 : Fd cx 50 3 3 1 false := ⟨by kernel_rfl⟩
instance pl50 : Pl cx 50 [(0, 1, false), (1, 1, false), (2, 1, false), (3, 1, false)] := ⟨by kernel_rfl⟩
instance sz52 : Sz cx 52 true 2 := ⟨by kernel_rfl, by kernel_rfl⟩
instance zc52 : Zc cx 52 [.val (.bool false), .val (.int .i64 0)] := ⟨by kernel_rfl⟩
instance zm52 : Zm cx 52 [.val (.bool false), .val (.int .i64 0)] := ⟨by kernel_rfl⟩
instance fd52_0 : Fd cx 52 0 0 1 false := ⟨by kernel_rfl⟩
instance fd52_1 : Fd cx 52 1 1 1 false := ⟨by kernel_rfl⟩
instance pl52 : Pl cx 52 [(0, 1, false), (1, 1, false)] := ⟨by kernel_rfl⟩
instance sz54 : Sz cx 54 true 4 := ⟨by kernel_rfl, by kernel_rfl⟩
instance zc54 : Zc cx 54 [.val (.int .i64 0), .val (.bool false), .val (.int .i64 0), .snil] := ⟨by kernel_rfl⟩
instance fd54_0 : Fd cx 54 0 0 1 false := ⟨by kernel_rfl⟩
instance fd54_1 : Fd cx 54 1 1 2 true := ⟨by kernel_rfl⟩
instance fd54_2 : Fd cx 54 2 3 1 false := ⟨by kernel_rfl⟩
instance pl54 : Pl cx 54 [(0, 1, false), (1, 2, true), (3, 1, false)] := ⟨by kernel_rfl⟩
instance ul55 : Ul cx 55 (.slice 97) := ⟨Tryd.underlying55⟩
instance sz55 : Sz cx 55 false 1 := ⟨by kernel_rfl, by kernel_rfl⟩
instance ul56 : Ul cx 56 (.slice 63) := ⟨Tryd.underlying56⟩
instance sz56 : Sz cx 56 false 1 := ⟨by kernel_rfl, by kernel_rfl⟩
instance sz58 : Sz cx 58 true 6 := ⟨by kernel_rfl, by kernel_rfl⟩
instance zc58 : Zc cx 58 [.snil, .snil, .val (.int .i64 0), .val (.bool false), .val (.int .i64 0), .snil] := ⟨by kernel_rfl⟩
instance zm58 : Zm cx 58 [.own [] 0, .own [] 0, .val (.int .i64 0), .val (.bool false), .val (.int .i64 0), .own [] 0] := ⟨by kernel_rfl⟩
instance fd58_0 : Fd cx 58 0 0 1 false := ⟨by kernel_rfl⟩
instance fd58_1 : Fd cx 58 1 1 1 false := ⟨by kernel_rfl⟩
instance fd58_2 : Fd cx 58 2 2 4 true := ⟨by kernel_rfl⟩
instance pl58 : Pl cx 58 [(0, 1, false), (1, 1, false), (2, 4, true)] := ⟨by kernel_rfl⟩
instance ul60 : Ul cx 60 (.slice 4) := ⟨Tryd.underlying60⟩
instance ul61 : Ul cx 61 (.slice 52) := ⟨Tryd.underlying61⟩
instance sz61 : Sz cx 61 false 1 := ⟨by kernel_rfl, by kernel_rfl⟩
instance sz63 : Sz cx 63 true 8 := ⟨by kernel_rfl, by kernel_rfl⟩
instance zc63 : Zc cx 63 [.val (.int .i64 0), .val (.int .i64 0), .val (.bool false), .val (.int .i64 0), .val (.bool false), .val (.int .i64 0), .val (.int .i64 0), .snil] := ⟨by kernel_rfl⟩
instance zm63 : Zm cx 63 [.val (.int .i64 0), .val (.int .i64 0), .val (.bool false), .val (.int .i64 0), .val (.bool false), .val (.int .i64 0), .val (.int .i64 0), .own [] 0] := ⟨by kernel_rfl⟩
instance fd63_0 : Fd cx 63 0 0 1 false := ⟨by kernel_rfl⟩
instance fd63_1 : Fd cx 63 1 1 1 false := ⟨by kernel_rfl⟩
instance fd63_2 : Fd cx 63 2 2 2 true := ⟨by kernel_rfl⟩
instance fd63_3 : Fd cx 63 3 4 2 true := ⟨by kernel_rfl⟩
instance fd63_4 : Fd cx 63 4 6 1 false := ⟨by kernel_rfl⟩
instance fd63_5 : Fd cx 63 5 7 1 false := ⟨by kernel_rfl⟩
instance pl63 : Pl cx 63 [(0, 1, false), (1, 1, false), (2, 2, true), (4, 2, true), (6, 1, false), (7, 1, false)] := ⟨by kernel_rfl⟩
instance sz68 : Sz cx 68 true 3 := ⟨by kernel_rfl, by kernel_rfl⟩
instance zm68 : Zm cx 68 [.val (.string ⟨#[]⟩), .val (.int .i64 0), .own [] 0] := ⟨by kernel_rfl⟩
instance fd68_0 : Fd cx 68 0 0 1 false := ⟨by kernel_rfl⟩
instance fd68_1 : Fd cx 68 1 1 1 false := ⟨by kernel_rfl⟩
instance fd68_2 : Fd cx 68 2 2 1 false := ⟨by kernel_rfl⟩
instance ul73 : Ul cx 73 (.slice 37) := ⟨Tryd.underlying73⟩
instance sz73 : Sz cx 73 false 1 := ⟨by kernel_rfl, by kernel_rfl⟩
instance ul74 : Ul cx 74 (.slice 107) := ⟨Tryd.underlying74⟩
instance sz74 : Sz cx 74 false 1 := ⟨by kernel_rfl, by kernel_rfl⟩
instance sz76 : Sz cx 76 true 11 := ⟨by kernel_rfl, by kernel_rfl⟩
instance zc76 : Zc cx 76 [.snil, .snil, .snil, .snil, .snil, .val (.int .i64 0), .val (.int .i64 0), .snil, .val (.int .i64 0), .snil, .snil] := ⟨by kernel_rfl⟩
instance fd76_0 : Fd cx 76 0 0 2 true := ⟨by kernel_rfl⟩
instance fd76_1 : Fd cx 76 1 2 1 false := ⟨by kernel_rfl⟩
instance fd76_2 : Fd cx 76 2 3 1 false := ⟨by kernel_rfl⟩
instance fd76_3 : Fd cx 76 3 4 1 false := ⟨by kernel_rfl⟩
instance fd76_4 : Fd cx 76 4 5 4 true := ⟨by kernel_rfl⟩
instance fd76_5 : Fd cx 76 5 9 1 false := ⟨by kernel_rfl⟩
instance fd76_6 : Fd cx 76 6 10 1 false := ⟨by kernel_rfl⟩
instance pl76 : Pl cx 76 [(0, 2, true), (2, 1, false), (3, 1, false), (4, 1, false), (5, 4, true), (9, 1, false), (10, 1, false)] := ⟨by kernel_rfl⟩
instance ul83 : Ul cx 83 (.slice 88) := ⟨Tryd.underlying83⟩
instance sz83 : Sz cx 83 false 1 := ⟨by kernel_rfl, by kernel_rfl⟩
instance sz85 : Sz cx 85 true 10 := ⟨by kernel_rfl, by kernel_rfl⟩
instance zc85 : Zc cx 85 [.snil, .snil, .snil, .snil, .snil, .snil, .snil, .val (.int .i64 0), .val (.int .i64 0), .val (.int .i64 0)] := ⟨by kernel_rfl⟩
instance zm85 : Zm cx 85 [.own [] 0, .own [] 0, .own [] 0, .own [] 0, .own [] 0, .own [] 0, .own [] 0, .val (.int .i64 0), .val (.int .i64 0), .val (.int .i64 0)] := ⟨by kernel_rfl⟩
instance fd85_0 : Fd cx 85 0 0 2 true := ⟨by kernel_rfl⟩
instance fd85_1 : Fd cx 85 1 2 1 false := ⟨by kernel_rfl⟩
instance fd85_2 : Fd cx 85 2 3 1 false := ⟨by kernel_rfl⟩
instance fd85_3 : Fd cx 85 3 4 1 false := ⟨by kernel_rfl⟩
instance fd85_4 : Fd cx 85 4 5 1 false := ⟨by kernel_rfl⟩
instance fd85_5 : Fd cx 85 5 6 1 false := ⟨by kernel_rfl⟩
instance fd85_6 : Fd cx 85 6 7 1 false := ⟨by kernel_rfl⟩
instance fd85_7 : Fd cx 85 7 8 1 false := ⟨by kernel_rfl⟩
instance fd85_8 : Fd cx 85 8 9 1 false := ⟨by kernel_rfl⟩
instance pl85 : Pl cx 85 [(0, 2, true), (2, 1, false), (3, 1, false), (4, 1, false), (5, 1, false), (6, 1, false), (7, 1, false), (8, 1, false), (9, 1, false)] := ⟨by kernel_rfl⟩
instance sz88 : Sz cx 88 true 5 := ⟨by kernel_rfl, by kernel_rfl⟩
instance zc88 : Zc cx 88 [.val (.int .i64 0), .val (.int .i64 0), .val (.int .i64 0), .snil, .val (.int .i64 0)] := ⟨by kernel_rfl⟩
instance zm88 : Zm cx 88 [.val (.int .i64 0), .val (.int .i64 0), .val (.int .i64 0), .own [] 0, .val (.int .i64 0)] := ⟨by kernel_rfl⟩
instance fd88_0 : Fd cx 88 0 0 1 false := ⟨by kernel_rfl⟩
instance fd88_1 : Fd cx 88 1 1 1 false := ⟨by kernel_rfl⟩
instance fd88_2 : Fd cx 88 2 2 1 false := ⟨by kernel_rfl⟩
instance fd88_3 : Fd cx 88 3 3 1 false := ⟨by kernel_rfl⟩
instance fd88_4 : Fd cx 88 4 4 1 false := ⟨by kernel_rfl⟩
instance pl88 : Pl cx 88 [(0, 1, false), (1, 1, false), (2, 1, false), (3, 1, false), (4, 1, false)] := ⟨by kernel_rfl⟩
instance sz97 : Sz cx 97 true 2 := ⟨by kernel_rfl, by kernel_rfl⟩
instance zm97 : Zm cx 97 [.val (.int .i64 0), .own [] 0] := ⟨by kernel_rfl⟩
instance fd97_0 : Fd cx 97 0 0 1 false := ⟨by kernel_rfl⟩
instance fd97_1 : Fd cx 97 1 1 1 false := ⟨by kernel_rfl⟩
instance ul99 : Ul cx 99 (.slice 9) := ⟨Tryd.underlying99⟩
instance sz102 : Sz cx 102 true 7 := ⟨by kernel_rfl, by kernel_rfl⟩
instance zc102 : Zc cx 102 [.snil, .snil, .val (.string ⟨#[]⟩), .val (.int .i64 0), .val (.int .i64 0), .snil, .snil] := ⟨by kernel_rfl⟩
instance zm102 : Zm cx 102 [.own [] 0, .own [] 0, .val (.string ⟨#[]⟩), .val (.int .i64 0), .val (.int .i64 0), .own [] 0, .own [] 0] := ⟨by kernel_rfl⟩
instance fd102_0 : Fd cx 102 0 0 2 true := ⟨by kernel_rfl⟩
instance fd102_1 : Fd cx 102 1 2 4 true := ⟨by kernel_rfl⟩
instance fd102_2 : Fd cx 102 2 6 1 false := ⟨by kernel_rfl⟩
instance pl102 : Pl cx 102 [(0, 2, true), (2, 4, true), (6, 1, false)] := ⟨by kernel_rfl⟩
instance sz104 : Sz cx 104 false 1 := ⟨by kernel_rfl, by kernel_rfl⟩
instance zc104 : Zc cx 104 [.val .nilFunc] := ⟨by kernel_rfl⟩
instance sz107 : Sz cx 107 true 5 := ⟨by kernel_rfl, by kernel_rfl⟩
instance zc107 : Zc cx 107 [.val (.int .i64 0), .val (.int .i64 0), .val (.int .i64 0), .snil, .val (.int .i64 0)] := ⟨by kernel_rfl⟩
instance fd107_0 : Fd cx 107 0 0 1 false := ⟨by kernel_rfl⟩
instance fd107_1 : Fd cx 107 1 1 1 false := ⟨by kernel_rfl⟩
instance fd107_2 : Fd cx 107 2 2 1 false := ⟨by kernel_rfl⟩
instance fd107_3 : Fd cx 107 3 3 1 false := ⟨by kernel_rfl⟩
instance fd107_4 : Fd cx 107 4 4 1 false := ⟨by kernel_rfl⟩
instance pl107 : Pl cx 107 [(0, 1, false), (1, 1, false), (2, 1, false), (3, 1, false), (4, 1, false)] := ⟨by kernel_rfl⟩
instance ul127 : Ul cx 127 (.array 4 3) := ⟨Tryd.underlying127⟩
instance sz131 : Sz cx 131 true 3 := ⟨by kernel_rfl, by kernel_rfl⟩
instance zc131 : Zc cx 131 [.val (.bool false), .val (.bool false), .val (.bool false)] := ⟨by kernel_rfl⟩
instance zm131 : Zm cx 131 [.val (.bool false), .val (.bool false), .val (.bool false)] := ⟨by kernel_rfl⟩
instance fd131_0 : Fd cx 131 0 0 1 false := ⟨by kernel_rfl⟩
instance fd131_1 : Fd cx 131 1 1 1 false := ⟨by kernel_rfl⟩
instance fd131_2 : Fd cx 131 2 2 1 false := ⟨by kernel_rfl⟩
instance pl131 : Pl cx 131 [(0, 1, false), (1, 1, false), (2, 1, false)] := ⟨by kernel_rfl⟩
instance ul136 : Ul cx 136 (.int .u64) := ⟨Tryd.underlying136⟩
instance ul138 : Ul cx 138 (.slice 104) := ⟨Tryd.underlying138⟩
instance ao3 : Ao cx 3 1 := ⟨by kernel_rfl⟩
instance ao4 : Ao cx 4 1 := ⟨by kernel_rfl⟩
instance ao9 : Ao cx 9 1 := ⟨by kernel_rfl⟩
instance ao26 : Ao cx 26 1 := ⟨by kernel_rfl⟩
instance ao37 : Ao cx 37 1 := ⟨by kernel_rfl⟩
instance ao88 : Ao cx 88 5 := ⟨by kernel_rfl⟩
instance ao107 : Ao cx 107 5 := ⟨by kernel_rfl⟩
structure XApi_Global where
 Name : ByteArray
 Size : Int
 Init : (List Int)
 deriving DecidableEq, Inhabited
structure XApi_Val where
 Reg : Bool
 N : Int
 deriving DecidableEq, Inhabited
structure XApi_Phi where
 Dst : Int
 From : (List XApi_Val)
 deriving DecidableEq, Inhabited
structure XApi_Ins where
 Op : Int
 Dst : Int
 A : XApi_Val
 B : XApi_Val
 Func : Int
 Args : (List XApi_Val)
 deriving DecidableEq, Inhabited
structure XApi_End where
 Kind : Int
 On : XApi_Val
 To : (List Int)
 deriving DecidableEq, Inhabited
structure XApi_Block where
 Phis : (List XApi_Phi)
 List : (List XApi_Ins)
 End : XApi_End
 deriving DecidableEq, Inhabited
structure XApi_Func where
 Name : ByteArray
 Params : Int
 Regs : Int
 Blocks : (List XApi_Block)
 deriving DecidableEq, Inhabited
structure XApi_Unit where
 Globals : (List XApi_Global)
 Funcs : (List XApi_Func)
 deriving DecidableEq, Inhabited
structure XApi_Fault where
 Code : Int
 At : Int
 deriving DecidableEq, Inhabited
structure XApi_Outcome where
 State : Int
 Value : Int
 Out : (List Int)
 Steps : Int
 deriving DecidableEq, Inhabited
structure XCode_checker where
 u : XApi_Unit
 f : XApi_Func
 ahead : (List (List Int))
 deriving DecidableEq, Inhabited
structure XCore_Shape where
 Dst : Bool
 A : Bool
 B : Bool
 deriving DecidableEq, Inhabited
structure XRun_frame where
 fn : Int
 block : Int
 at_ : Int
 regs : (List Int)
 dst : Int
 deriving DecidableEq, Inhabited
structure XRun_walker where
 u : XApi_Unit
 ahead : (List (List (List Int)))
 mem : (List Int)
 input : (List Int)
 out : XApi_Outcome
 frames : ((List XRun_frame) × Nat)
 counts : (List (List Int))
 deriving DecidableEq, Inhabited
structure XTurneryref2_Frame where
 Fn : Int
 Block : Int
 At : Int
 Regs : (List Int)
 Dst : Int
 deriving DecidableEq, Inhabited
structure XTurneryref2_Run where
 U : XApi_Unit
 Mem : (List Int)
 Input : (List Int)
 Out : (List Int)
 Frames : ((List XTurneryref2_Frame) × Nat)
 Counts : (List (List Int))
 State : Int
 Value : Int
 Steps : Int
 deriving DecidableEq, Inhabited
def cInt_i64 (x : Int) : List AV := [(I x)]
instance : Fl cInt_i64 := ⟨fun x => rfl⟩
instance : Imm cInt_i64 := ⟨fun x => rfl, fun x => rfl⟩
instance : Fz cInt_i64 cInt_i64 := ⟨fun x => rfl⟩
def cXApi_Global (x : XApi_Global) : List AV := [(AV.val (.string x.Name)), (I x.Size), (.sl ((x.Init).map cInt_i64))]
instance : Fl cXApi_Global := ⟨fun x => rfl⟩
instance : Fz cXApi_Global cXApi_Global := ⟨fun x => rfl⟩
def cXApi_Val (x : XApi_Val) : List AV := [(B x.Reg), (I x.N)]
instance : Fz cXApi_Val cXApi_Val := ⟨fun x => rfl⟩
def cXApi_Phi (x : XApi_Phi) : List AV := [(I x.Dst), (.sl ((x.From).map cXApi_Val))]
instance : Fz cXApi_Phi cXApi_Phi := ⟨fun x => rfl⟩
def cXApi_Ins (x : XApi_Ins) : List AV := [(I x.Op), (I x.Dst), (B x.A.Reg), (I x.A.N), (B x.B.Reg), (I x.B.N), (I x.Func), (.sl ((x.Args).map cXApi_Val))]
def cXApi_Block (x : XApi_Block) : List AV := [(.sl ((x.Phis).map cXApi_Phi)), (.sl ((x.List).map cXApi_Ins)), (I x.End.Kind), (B x.End.On.Reg), (I x.End.On.N), (.sl ((x.End.To).map cInt_i64))]
def cXApi_Func (x : XApi_Func) : List AV := [(AV.val (.string x.Name)), (I x.Params), (I x.Regs), (.sl ((x.Blocks).map cXApi_Block))]
instance : Fl cXApi_Func := ⟨fun x => rfl⟩
def cXApi_Unit (x : XApi_Unit) : List AV := [(.sl ((x.Globals).map cXApi_Global)), (.sl ((x.Funcs).map cXApi_Func))]
def cXApi_Fault (x : XApi_Fault) : List AV := [(I x.Code), (I x.At)]
def cXApi_End (x : XApi_End) : List AV := [(I x.Kind), (B x.On.Reg), (I x.On.N), (.sl ((x.To).map cInt_i64))]
def cStr (x : ByteArray) : List AV := [(AV.val (.string x))]
instance : Fl cStr := ⟨fun x => rfl⟩
instance : Imm cStr := ⟨fun x => rfl, fun x => rfl⟩
def cs_cInt_i64 (x : (List Int)) : List AV := [(.sl ((x).map cInt_i64))]
instance : Fl cs_cInt_i64 := ⟨fun x => rfl⟩
def cXCode_checker (x : XCode_checker) : List AV := [(.sl ((x.u.Globals).map cXApi_Global)), (.sl ((x.u.Funcs).map cXApi_Func)), (AV.val (.string x.f.Name)), (I x.f.Params), (I x.f.Regs), (.sl ((x.f.Blocks).map cXApi_Block)), (.sl ((x.ahead).map cs_cInt_i64))]
def co_cInt_i64 (x : (List Int)) : List AV := [(.own ((x).map cInt_i64) (x).length)]
instance : Fl co_cInt_i64 := ⟨fun x => by simp only [co_cInt_i64, flatL_cons, flatL_nil, flat_own, flat_val, flat_sl, Bool.and_true, Bool.and_self, fl_map]⟩
instance : Fz co_cInt_i64 cs_cInt_i64 := ⟨fun x => by simp only [co_cInt_i64, cs_cInt_i64]; repeat' (first | exact (rfl : fzL [] = []) | (apply fzC; exact fzk))⟩
instance : Bw co_cInt_i64 cs_cInt_i64 := ⟨fun L n x => by simp only [co_cInt_i64, cs_cInt_i64]; exact bwck, fun x => rfl⟩
def cXCore_Shape (x : XCore_Shape) : List AV := [(B x.Dst), (B x.A), (B x.B)]
def cBool (x : Bool) : List AV := [(B x)]
instance : Fl cBool := ⟨fun x => rfl⟩
def cs_cs_cInt_i64 (x : (List (List Int))) : List AV := [(.sl ((x).map cs_cInt_i64))]
instance : Fl cs_cs_cInt_i64 := ⟨fun x => rfl⟩
instance : Imm cs_cs_cInt_i64 := ⟨fun x => rfl, fun x => rfl⟩
def cXRun_frame (x : XRun_frame) : List AV := [(I x.fn), (I x.block), (I x.at_), (.sl ((x.regs).map cInt_i64)), (I x.dst)]
def cXRun_frame_SIIIOIe (x : XRun_frame) : List AV := [(I x.fn), (I x.block), (I x.at_), (.own ((x.regs).map cInt_i64) (x.regs).length), (I x.dst)]
instance : Fl cXRun_frame_SIIIOIe := ⟨fun x => by simp only [cXRun_frame_SIIIOIe, flatL_cons, flatL_nil, flat_own, flat_val, flat_sl, Bool.and_true, Bool.and_self, fl_map]⟩
instance : Bw cXRun_frame_SIIIOIe cXRun_frame := ⟨fun L n x => by simp only [cXRun_frame_SIIIOIe, cXRun_frame]; exact bwck, fun x => rfl⟩
def cXRun_walker (x : XRun_walker) : List AV := [(.sl ((x.u.Globals).map cXApi_Global)), (.sl ((x.u.Funcs).map cXApi_Func)), (.sl ((x.ahead).map cs_cs_cInt_i64)), (.sl ((x.mem).map cInt_i64)), (.sl ((x.input).map cInt_i64)), (I x.out.State), (I x.out.Value), (.sl ((x.out.Out).map cInt_i64)), (I x.out.Steps), (.sl (((List.take x.frames.2 x.frames.1)).map cXRun_frame)), (.sl ((x.counts).map cs_cInt_i64))]
def cXRun_walker_SIOOISIIOIeLSIIIOIeOOe (x : XRun_walker) : List AV := [(.sl ((x.u.Globals).map cXApi_Global)), (.sl ((x.u.Funcs).map cXApi_Func)), (.own ((x.ahead).map cs_cs_cInt_i64) (x.ahead).length), (.own ((x.mem).map cInt_i64) (x.mem).length), (.sl ((x.input).map cInt_i64)), (I x.out.State), (I x.out.Value), (.own ((x.out.Out).map cInt_i64) (x.out.Out).length), (I x.out.Steps), (.own ((x.frames).1.map cXRun_frame_SIIIOIe) (x.frames).2), (.own ((x.counts).map co_cInt_i64) (x.counts).length)]
instance : Fl cXRun_walker_SIOOISIIOIeLSIIIOIeOOe := ⟨fun x => by simp only [cXRun_walker_SIOOISIIOIeLSIIIOIeOOe, flatL_cons, flatL_nil, flat_own, flat_val, flat_sl, Bool.and_true, Bool.and_self, fl_map]⟩
def cXApi_Outcome (x : XApi_Outcome) : List AV := [(I x.State), (I x.Value), (.sl ((x.Out).map cInt_i64)), (I x.Steps)]
def cXApi_Outcome_SIIOIe (x : XApi_Outcome) : List AV := [(I x.State), (I x.Value), (.own ((x.Out).map cInt_i64) (x.Out).length), (I x.Steps)]
def cXTurneryref2_Frame (x : XTurneryref2_Frame) : List AV := [(I x.Fn), (I x.Block), (I x.At), (.sl ((x.Regs).map cInt_i64)), (I x.Dst)]
def cXTurneryref2_Frame_SIIIOIe (x : XTurneryref2_Frame) : List AV := [(I x.Fn), (I x.Block), (I x.At), (.own ((x.Regs).map cInt_i64) (x.Regs).length), (I x.Dst)]
instance : Fl cXTurneryref2_Frame_SIIIOIe := ⟨fun x => by simp only [cXTurneryref2_Frame_SIIIOIe, flatL_cons, flatL_nil, flat_own, flat_val, flat_sl, Bool.and_true, Bool.and_self, fl_map]⟩
instance : Bw cXTurneryref2_Frame_SIIIOIe cXTurneryref2_Frame := ⟨fun L n x => by simp only [cXTurneryref2_Frame_SIIIOIe, cXTurneryref2_Frame]; exact bwck, fun x => rfl⟩
def cXTurneryref2_Run (x : XTurneryref2_Run) : List AV := [(.sl ((x.U.Globals).map cXApi_Global)), (.sl ((x.U.Funcs).map cXApi_Func)), (.sl ((x.Mem).map cInt_i64)), (.sl ((x.Input).map cInt_i64)), (.sl ((x.Out).map cInt_i64)), (.sl (((List.take x.Frames.2 x.Frames.1)).map cXTurneryref2_Frame)), (.sl ((x.Counts).map cs_cInt_i64)), (I x.State), (I x.Value), (I x.Steps)]
def cXTurneryref2_Run_SIOIOLSIIIOIeOOIIIe (x : XTurneryref2_Run) : List AV := [(.sl ((x.U.Globals).map cXApi_Global)), (.sl ((x.U.Funcs).map cXApi_Func)), (.own ((x.Mem).map cInt_i64) (x.Mem).length), (.sl ((x.Input).map cInt_i64)), (.own ((x.Out).map cInt_i64) (x.Out).length), (.own ((x.Frames).1.map cXTurneryref2_Frame_SIIIOIe) (x.Frames).2), (.own ((x.Counts).map co_cInt_i64) (x.Counts).length), (I x.State), (I x.Value), (I x.Steps)]
def cXTurneryref2_Run_SSOOeOOOLSIIIOIeOIIIe (x : XTurneryref2_Run) : List AV := [(.own ((x.U.Globals).map cXApi_Global) (x.U.Globals).length), (.own ((x.U.Funcs).map cXApi_Func) (x.U.Funcs).length), (.own ((x.Mem).map cInt_i64) (x.Mem).length), (.own ((x.Input).map cInt_i64) (x.Input).length), (.own ((x.Out).map cInt_i64) (x.Out).length), (.own ((x.Frames).1.map cXTurneryref2_Frame_SIIIOIe) (x.Frames).2), (.own ((x.Counts).map cs_cInt_i64) (x.Counts).length), (I x.State), (I x.Value), (I x.Steps)]
def cXApi_Ins_SIIIIIOe (x : XApi_Ins) : List AV := [(I x.Op), (I x.Dst), (B x.A.Reg), (I x.A.N), (B x.B.Reg), (I x.B.N), (I x.Func), (.own ((x.Args).map cXApi_Val) (x.Args).length)]
instance : Fz cXApi_Ins_SIIIIIOe cXApi_Ins := ⟨fun x => by simp only [cXApi_Ins_SIIIIIOe, cXApi_Ins]; repeat' (first | exact (rfl : fzL [] = []) | (apply fzC; exact fzk))⟩
def cXApi_Block_SOOSIIIIIOeSIIOee (x : XApi_Block) : List AV := [(.own ((x.Phis).map cXApi_Phi) (x.Phis).length), (.own ((x.List).map cXApi_Ins_SIIIIIOe) (x.List).length), (I x.End.Kind), (B x.End.On.Reg), (I x.End.On.N), (.own ((x.End.To).map cInt_i64) (x.End.To).length)]
instance : Fz cXApi_Block_SOOSIIIIIOeSIIOee cXApi_Block := ⟨fun x => by simp only [cXApi_Block_SOOSIIIIIOeSIIOee, cXApi_Block]; repeat' (first | exact (rfl : fzL [] = []) | (apply fzC; exact fzk))⟩
def cXApi_Func_SIIIOSOOSIIIIIOeSIIOeee (x : XApi_Func) : List AV := [(AV.val (.string x.Name)), (I x.Params), (I x.Regs), (.own ((x.Blocks).map cXApi_Block_SOOSIIIIIOeSIIOee) (x.Blocks).length)]
instance : Fz cXApi_Func_SIIIOSOOSIIIIIOeSIIOeee cXApi_Func := ⟨fun x => by simp only [cXApi_Func_SIIIOSOOSIIIIIOeSIIOeee, cXApi_Func]; repeat' (first | exact (rfl : fzL [] = []) | (apply fzC; exact fzk))⟩
def cXApi_Unit_SOOSIIIOSOOSIIIIIOeSIIOeeee (x : XApi_Unit) : List AV := [(.own ((x.Globals).map cXApi_Global) (x.Globals).length), (.own ((x.Funcs).map cXApi_Func_SIIIOSOOSIIIIIOeSIIOeee) (x.Funcs).length)]
theorem eq29_eql (x y : Operand) {p0 q0 : Int} {p1 q1 : Int} : binV cx.P .eql 29 x y (.agg ⟨[.int .i64 p0, .int .i64 p1]⟩) (.agg ⟨[.int .i64 q0, .int .i64 q1]⟩) = some (.bool ((p0 == q0) && ((p1 == q1) && true))) :=
 bin_eqlStruct (P := Tryd.prog) Tryd.underlying29 Tryd.stoodInHeld29 Tryd.eqGuardType29 (by simp [eqL, Tryd.underlying3, fits, scEq])
theorem eq29_neq (x y : Operand) {p0 q0 : Int} {p1 q1 : Int} : binV cx.P .neq 29 x y (.agg ⟨[.int .i64 p0, .int .i64 p1]⟩) (.agg ⟨[.int .i64 q0, .int .i64 q1]⟩) = some (.bool (!((p0 == q0) && ((p1 == q1) && true)))) :=
 bin_neqStruct (P := Tryd.prog) Tryd.underlying29 Tryd.stoodInHeld29 Tryd.eqGuardType29 (by simp [eqL, Tryd.underlying3, fits, scEq])
theorem eq52_neq (x y : Operand) {p0 q0 : Bool} {p1 q1 : Int} : binV cx.P .neq 52 x y (.agg ⟨[.bool p0, .int .i64 p1]⟩) (.agg ⟨[.bool q0, .int .i64 q1]⟩) = some (.bool (!((p0 == q0) && ((p1 == q1) && true)))) :=
 bin_neqStruct (P := Tryd.prog) Tryd.underlying52 Tryd.stoodInHeld52 Tryd.eqGuardType52 (by simp [eqL, Tryd.underlying3, Tryd.underlying4, fits, scEq])
end Go.Ab
