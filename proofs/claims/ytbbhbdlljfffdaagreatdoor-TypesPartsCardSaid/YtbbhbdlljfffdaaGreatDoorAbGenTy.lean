import Derived.Test.YtbbhbdlljfffdaaGreatDoorAbCx
open Bool renaming and_true→AC,and_self→Do
set_option linter.all false
namespace Go.Ab
open Go Go.Proofs
variable[ja]
instance anB:c9 aj 2 (.int .i64):=⟨Tryz.underlying2⟩
instance anJ:c9 aj 3 (.int .i64):=⟨Tryz.underlying3⟩
instance am9:cR aj 3 false 1:=⟨by kernel_rfl,by kernel_rfl⟩
instance aoz:jY aj 3 [.val (.int .i64 0)]:=⟨by kernel_rfl⟩
instance aoL:oJ aj 3 [.val (.int .i64 0)]:=⟨by kernel_rfl⟩
instance anM:c9 aj 5 (.int .u8):=⟨Tryz.underlying5⟩
instance ane:cR aj 5 false 1:=⟨by kernel_rfl,by kernel_rfl⟩
instance anP:c9 aj 9 .string:=⟨Tryz.underlying9⟩
instance ann:cR aj 9 false 1:=⟨by kernel_rfl,by kernel_rfl⟩
instance aoF:jY aj 9 [.val (.string ⟨#[]⟩)]:=⟨by kernel_rfl⟩
instance anI:c9 aj 22 (.slice 36):=⟨Tryz.underlying22⟩
instance am6:cR aj 22 false 1:=⟨by kernel_rfl,by kernel_rfl⟩
instance am7:cR aj 24 true 1:=⟨by kernel_rfl,by kernel_rfl⟩
instance aox:jY aj 24 [.cu]:=⟨by kernel_rfl⟩
instance aoJ:oJ aj 24 [.own [] 0]:=⟨by kernel_rfl⟩
instance akx:Fd aj 24 0 0 1 false:=⟨by kernel_rfl⟩
instance amy:Pl aj 24 [(0,1,false)]:=⟨by kernel_rfl⟩
instance am8:cR aj 26 true 2:=⟨by kernel_rfl,by kernel_rfl⟩
instance aoy:jY aj 26 [.val (.int .i64 0), .val (.int .i64 0)]:=⟨by kernel_rfl⟩
instance aoK:oJ aj 26 [.val (.int .i64 0), .val (.int .i64 0)]:=⟨by kernel_rfl⟩
instance aky:Fd aj 26 0 0 1 false:=⟨by kernel_rfl⟩
instance amz:Pl aj 26 [(0,1,false),(1,1,false)]:=⟨by kernel_rfl⟩
instance anK:c9 aj 34 (.slice 3):=⟨Tryz.underlying34⟩
instance ana:cR aj 34 false 1:=⟨by kernel_rfl,by kernel_rfl⟩
instance aoM:oJ aj 34 [.own [] 0]:=⟨by kernel_rfl⟩
instance anb:cR aj 36 true 6:=⟨by kernel_rfl,by kernel_rfl⟩
instance aoA:jY aj 36 [.val (.int .i64 0), .val (.string ⟨#[]⟩), .val (.int .i64 0), .val (.int .i64 0), .cu, .val (.int .i64 0)]:=⟨by kernel_rfl⟩
instance aoN:oJ aj 36 [.val (.int .i64 0), .val (.string ⟨#[]⟩), .val (.int .i64 0), .val (.int .i64 0), .own [] 0, .val (.int .i64 0)]:=⟨by kernel_rfl⟩
instance akz:Fd aj 36 0 0 1 false:=⟨by kernel_rfl⟩
instance akA:Fd aj 36 1 1 1 false:=⟨by kernel_rfl⟩
instance akB:Fd aj 36 2 2 1 false:=⟨by kernel_rfl⟩
instance akC:Fd aj 36 3 3 1 false:=⟨by kernel_rfl⟩
instance akD:Fd aj 36 4 4 1 false:=⟨by kernel_rfl⟩
instance akE:Fd aj 36 5 5 1 false:=⟨by kernel_rfl⟩
instance amA:Pl aj 36 [(0,1,false),(1,1,false),(2,1,false),(3,1,false),(4,1,false),(5,1,false)]:=⟨by kernel_rfl⟩
instance anL:c9 aj 41 (.slice 9):=⟨Tryz.underlying41⟩
instance anc:cR aj 41 false 1:=⟨by kernel_rfl,by kernel_rfl⟩
instance anf:cR aj 59 false 1:=⟨by kernel_rfl,by kernel_rfl⟩
instance anN:c9 aj 62 (.slice 111):=⟨Tryz.underlying62⟩
instance ang:cR aj 62 false 1:=⟨by kernel_rfl,by kernel_rfl⟩
instance akF:Fd aj 70 0 0 1 false:=⟨by kernel_rfl⟩
instance anh:cR aj 72 true 3:=⟨by kernel_rfl,by kernel_rfl⟩
instance aoB:jY aj 72 [.cu, .cu, .val (.int .i64 0)]:=⟨by kernel_rfl⟩
instance akG:Fd aj 72 0 0 1 true:=⟨by kernel_rfl⟩
instance akH:Fd aj 72 1 1 1 false:=⟨by kernel_rfl⟩
instance akI:Fd aj 72 2 2 1 false:=⟨by kernel_rfl⟩
instance amB:Pl aj 72 [(0,1,true),(1,1,false),(2,1,false)]:=⟨by kernel_rfl⟩
instance ani:cR aj 77 true 2:=⟨by kernel_rfl,by kernel_rfl⟩
instance aoC:jY aj 77 [.cu, .cu]:=⟨by kernel_rfl⟩
instance aoO:oJ aj 77 [.own [] 0, .own [] 0]:=⟨by kernel_rfl⟩
instance akJ:Fd aj 77 0 0 1 true:=⟨by kernel_rfl⟩
instance akK:Fd aj 77 1 1 1 false:=⟨by kernel_rfl⟩
instance amC:Pl aj 77 [(0,1,true),(1,1,false)]:=⟨by kernel_rfl⟩
instance anj:cR aj 81 false 1:=⟨by kernel_rfl,by kernel_rfl⟩
instance aoP:oJ aj 81 [.val (.pointer none)]:=⟨by kernel_rfl⟩
instance ama:AL aj 82 .string (vk 0):=⟨by kernel_rfl⟩
instance ank:cR aj 82 false 1:=⟨by kernel_rfl,by kernel_rfl⟩
instance aoD:jY aj 82 [.val (.map none)]:=⟨by kernel_rfl⟩
instance anO:c9 aj 83 (.slice 82):=⟨Tryz.underlying83⟩
instance anl:cR aj 83 false 1:=⟨by kernel_rfl,by kernel_rfl⟩
instance anm:cR aj 85 true 3:=⟨by kernel_rfl,by kernel_rfl⟩
instance aoE:jY aj 85 [.cu, .cu, .cu]:=⟨by kernel_rfl⟩
instance akL:Fd aj 85 0 0 1 true:=⟨by kernel_rfl⟩
instance akM:Fd aj 85 1 1 1 false:=⟨by kernel_rfl⟩
instance akN:Fd aj 85 2 2 1 false:=⟨by kernel_rfl⟩
instance amD:Pl aj 85 [(0,1,true),(1,1,false),(2,1,false)]:=⟨by kernel_rfl⟩
instance ano:cR aj 90 false 1:=⟨by kernel_rfl,by kernel_rfl⟩
instance aoQ:oJ aj 90 [.val (.pointer none)]:=⟨by kernel_rfl⟩
instance anp:cR aj 92 true 11:=⟨by kernel_rfl,by kernel_rfl⟩
instance aoG:jY aj 92 [.cu, .cu, .cu, .val (.int .i64 0), .val (.string ⟨#[]⟩), .val (.int .i64 0), .val (.int .i64 0), .cu, .val (.int .i64 0), .val (.int .i64 0), .val (.int .i64 0)]:=⟨by kernel_rfl⟩
instance akO:Fd aj 92 0 0 1 true:=⟨by kernel_rfl⟩
instance akP:Fd aj 92 1 1 1 false:=⟨by kernel_rfl⟩
instance akQ:Fd aj 92 2 2 1 false:=⟨by kernel_rfl⟩
instance akR:Fd aj 92 3 3 6 true:=⟨by kernel_rfl⟩
instance akS:Fd aj 92 4 9 1 false:=⟨by kernel_rfl⟩
instance akT:Fd aj 92 5 10 1 false:=⟨by kernel_rfl⟩
instance amE:Pl aj 92 [(0,1,true),(1,1,false),(2,1,false),(3,6,true),(9,1,false),(10,1,false)]:=⟨by kernel_rfl⟩
instance anx:c9 aj 103 (.interface #[("Error",237)]):=⟨Tryz.underlying103⟩
instance am0:cR aj 103 false 1:=⟨by kernel_rfl,by kernel_rfl⟩
instance aot:jY aj 106 [.val (.int .i64 0), .val (.int .i64 0)]:=⟨by kernel_rfl⟩
instance amu:Pl aj 106 [(0,2,true)]:=⟨by kernel_rfl⟩
instance am1:cR aj 111 true 4:=⟨by kernel_rfl,by kernel_rfl⟩
instance aou:jY aj 111 [.val (.int .i64 0), .val (.string ⟨#[]⟩), .val (.int .i64 0), .val (.int .i64 0)]:=⟨by kernel_rfl⟩
instance aoH:oJ aj 111 [.val (.int .i64 0), .val (.string ⟨#[]⟩), .val (.int .i64 0), .val (.int .i64 0)]:=⟨by kernel_rfl⟩
instance aks:Fd aj 111 0 0 1 false:=⟨by kernel_rfl⟩
instance akt:Fd aj 111 1 1 1 false:=⟨by kernel_rfl⟩
instance aku:Fd aj 111 2 2 1 false:=⟨by kernel_rfl⟩
instance akv:Fd aj 111 3 3 1 false:=⟨by kernel_rfl⟩
instance amv:Pl aj 111 [(0,1,false),(1,1,false),(2,1,false),(3,1,false)]:=⟨by kernel_rfl⟩
instance am2:cR aj 144 true 2:=⟨by kernel_rfl,by kernel_rfl⟩
instance aov:jY aj 144 [.val (.int .i64 0), .val (.bool false)]:=⟨by kernel_rfl⟩
instance aoI:oJ aj 144 [.val (.int .i64 0), .val (.bool false)]:=⟨by kernel_rfl⟩
instance akw:Fd aj 144 0 0 1 false:=⟨by kernel_rfl⟩
instance amw:Pl aj 144 [(0,1,false),(1,1,false)]:=⟨by kernel_rfl⟩
instance anz:c9 aj 161 (.array 10 41):=⟨Tryz.underlying161⟩
instance anA:c9 aj 196 (.array 13 9):=⟨Tryz.underlying196⟩
instance am3:cR aj 196 true 13:=⟨by kernel_rfl,by kernel_rfl⟩
instance anC:c9 aj 201 (.array 43 9):=⟨Tryz.underlying201⟩
instance am4:cR aj 201 true 43:=⟨by kernel_rfl,by kernel_rfl⟩
instance anD:c9 aj 203 (.int .u64):=⟨Tryz.underlying203⟩
instance anE:c9 aj 208 (.int .i64):=⟨Tryz.underlying208⟩
instance aj9:DG aj 208:=⟨by kernel_rfl⟩
instance anF:c9 aj 209 (.int .u64):=⟨Tryz.underlying209⟩
instance anG:c9 aj 212 (.pointer 218):=⟨Tryz.underlying212⟩
instance anH:c9 aj 216 (.slice 5):=⟨Tryz.underlying216⟩
instance am5:cR aj 218 true 3:=⟨by kernel_rfl,by kernel_rfl⟩
instance aow:jY aj 218 [.val (.string ⟨#[]⟩), .val (.string ⟨#[]⟩), .val .nilIface]:=⟨by kernel_rfl⟩
instance amx:Pl aj 218 [(0,1,false),(1,1,false),(2,1,false)]:=⟨by kernel_rfl⟩
instance ajQ:qI aj 3 1:=⟨by kernel_rfl⟩
instance ajR:qI aj 36 6:=⟨by kernel_rfl⟩
instance ajS:qI aj 82 1:=⟨by kernel_rfl⟩
instance ajP:qI aj 111 4:=⟨by kernel_rfl⟩
structure aN where
 Kind:Int
 Text:ByteArray
 N:Int
 gd:Int
 Kids:(List Int)
 cl:Int
 deriving DecidableEq,Inhabited
structure cg where aK:(List aN)deriving DecidableEq,Inhabited
structure aX where
 Code:Int
 cl:Int
 deriving DecidableEq,Inhabited
structure bJ where
 Kind:Int
 Text:ByteArray
 N:Int
 cl:Int
 deriving DecidableEq,Inhabited
structure sd where
 Func:ByteArray
 Ue:ByteArray
 T6:dm
 deriving DecidableEq,Inhabited
structure ax where
 bK:cg
 l:(List bJ)
 end_:Int
 deriving DecidableEq,Inhabited
structure jf where
 t:cg
 first:(List Int)
 deriving DecidableEq,Inhabited
structure jX where
 Op:Int
 WY:Bool
 deriving DecidableEq,Inhabited
structure aA where
 t:cg
 out:(List Int)
 room:((List (List (ByteArray×Int)))×Nat)
 deriving DecidableEq,Inhabited
structure bX where
 t:cg
 names:(List Int)
 bx:(List Int)
 fn:aN
 loops:Int
 leave:Int
 deriving DecidableEq,Inhabited
def bl(x:Int):List U:=[(I x)]
instance:iH bl:=⟨fun x=>rfl⟩
instance:pS bl:=⟨fun x=>rfl,fun x=>rfl⟩
instance:DM bl bl:=⟨fun x=>rfl⟩
instance:MC bl:=⟨fun x=>rfl⟩
def b8(x:aN):List U:=[(I x.Kind),(U.val (.string x.Text)),(I x.N),(I x.gd),(.sl ((x.Kids).map bl)),(I x.cl)]
instance:iH b8:=⟨fun x=>rfl⟩
instance:pS b8:=⟨fun x=>rfl,fun x=>rfl⟩
instance:DM b8 b8:=⟨fun x=>rfl⟩
def j0(x:cg):List U:=[(.sl ((x.aK).map b8))]
def eV(x:aX):List U:=[(I x.Code),(I x.cl)]
def Ei(x:Int):List U:=[(U.val (.int .u8 x))]
def Ej(x:sd):List U:=[(U.val (.string x.Func)),(U.val (.string x.Ue)),(gC 208 x.T6)]
def dD(x:bJ):List U:=[(I x.Kind),(U.val (.string x.Text)),(I x.N),(I x.cl)]
instance:iH dD:=⟨fun x=>rfl⟩
instance:pS dD:=⟨fun x=>rfl,fun x=>rfl⟩
instance:DM dD dD:=⟨fun x=>rfl⟩
def bN(x:ax):List U:=[(.own ((x.bK.aK).map b8) (x.bK.aK).length),(.sl ((x.l).map dD)),(I x.end_)]
def yw(x:ByteArray):List U:=[(U.val (.string x))]
def qV(x:cg):List U:=[(.own ((x.aK).map b8) (x.aK).length)]
instance:iH qV:=⟨fun x=>by simp only[qV,ED,EE,EJ,EL,EK,EI,EH,AC,Do,nT]⟩
def vV(x:jf):List U:=[(.sl ((x.t.aK).map b8)),(.own ((x.first).map bl) (x.first).length)]
def X3(x:jX):List U:=[(I x.Op),(B x.WY)]
def HJ(x:(List (ByteArray×Int))):List U:=[(.im ((x).map (n9 xR vk)))]
def A8(x:(List (ByteArray×Int))):List U:=[(.ep ((x).map (n9 xR vk)))]
instance:iH A8:=⟨fun x=>by simp only[A8,ED,EE,EJ,EL,EK,EI,EH,AC,Do,nT]⟩
instance:xV A8 HJ:=⟨fun L n x=>by simp only[A8,HJ];exact XV,fun x=>rfl⟩
def HA(x:aA):List U:=[(.sl ((x.t.aK).map b8)),(.sl ((x.out).map bl)),(.sl (((List.take x.room.2 x.room.1)).map HJ))]
def dS(x:aA):List U:=[(.sl ((x.t.aK).map b8)),(.own ((x.out).map bl) (x.out).length),(.own ((x.room).1.map A8) (x.room).2)]
instance:iH dS:=⟨fun x=>by simp only[dS,ED,EE,EJ,EL,EK,EI,EH,AC,Do,nT]⟩
def lq(x:bX):List U:=[(.sl ((x.t.aK).map b8)),(.sl ((x.names).map bl)),(.sl ((x.bx).map bl)),(I x.fn.Kind),(U.val (.string x.fn.Text)),(I x.fn.N),(I x.fn.gd),(.sl ((x.fn.Kids).map bl)),(I x.fn.cl),(I x.loops),(I x.leave)]
def nO(x:bX):List U:=[(.sl ((x.t.aK).map b8)),(.sl ((x.names).map bl)),(.own ((x.bx).map bl) (x.bx).length),(I x.fn.Kind),(U.val (.string x.fn.Text)),(I x.fn.N),(I x.fn.gd),(.sl ((x.fn.Kids).map bl)),(I x.fn.cl),(I x.loops),(I x.leave)]
instance:iH nO:=⟨fun x=>by simp only[nO,ED,EE,EJ,EL,EK,EI,EH,AC,Do,nT]⟩
theorem tR(x y:Operand){uU q0:Int}{p1 q1:Int}:eR aj.P .neq 26 x y (.agg ⟨[.int .i64 uU, .int .i64 p1]⟩) (.agg ⟨[.int .i64 q0, .int .i64 q1]⟩)=some (.bool (!((uU==q0)&&((p1==q1)&&true)))):=Xy (P:=Tryz.prog) Tryz.underlying26 Tryz.stoodInHeld26 Tryz.eqGuardType26 (by simp[yH,Tryz.underlying3,fits,Gp])
end Go.Ab
