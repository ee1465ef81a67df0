import Derived.Test.YtbbhbdlljfffdaaGreatDoorAbCx
open Bool renaming and_true→GE,and_self→GT
set_option linter.all false
namespace Go.Ab
open Go Go.Proofs
variable[jo]
instance ao7:c7 ai 2 (.int .i64):=⟨Tryz.underlying2⟩
instance apf:c7 ai 3 (.int .i64):=⟨Tryz.underlying3⟩
instance aoC:cM ai 3 false 1:=⟨by kernel_rfl,by kernel_rfl⟩
instance ap8:jt ai 3 [.val (.int .i64 0)]:=⟨by kernel_rfl⟩
instance aqm:kS ai 3 [.val (.int .i64 0)]:=⟨by kernel_rfl⟩
instance aoF:cM ai 4 false 1:=⟨by kernel_rfl,by kernel_rfl⟩
instance aqp:kS ai 4 [.val (.bool false)]:=⟨by kernel_rfl⟩
instance apj:c7 ai 5 (.int .u8):=⟨Tryz.underlying5⟩
instance aoI:cM ai 5 false 1:=⟨by kernel_rfl,by kernel_rfl⟩
instance apm:c7 ai 9 .string:=⟨Tryz.underlying9⟩
instance aoS:cM ai 9 false 1:=⟨by kernel_rfl,by kernel_rfl⟩
instance aqf:jt ai 9 [.val (.string ⟨#[]⟩)]:=⟨by kernel_rfl⟩
instance ape:c7 ai 22 (.slice 36):=⟨Tryz.underlying22⟩
instance aoz:cM ai 22 false 1:=⟨by kernel_rfl,by kernel_rfl⟩
instance aoA:cM ai 24 true 1:=⟨by kernel_rfl,by kernel_rfl⟩
instance ap6:jt ai 24 [.cz]:=⟨by kernel_rfl⟩
instance aqk:kS ai 24 [.own [] 0]:=⟨by kernel_rfl⟩
instance al7:Fd ai 24 0 0 1 false:=⟨by kernel_rfl⟩
instance an1:Pl ai 24 [(0,1,false)]:=⟨by kernel_rfl⟩
instance aoB:cM ai 26 true 2:=⟨by kernel_rfl,by kernel_rfl⟩
instance ap7:jt ai 26 [.val (.int .i64 0), .val (.int .i64 0)]:=⟨by kernel_rfl⟩
instance aql:kS ai 26 [.val (.int .i64 0), .val (.int .i64 0)]:=⟨by kernel_rfl⟩
instance al8:Fd ai 26 0 0 1 false:=⟨by kernel_rfl⟩
instance an2:Pl ai 26 [(0,1,false),(1,1,false)]:=⟨by kernel_rfl⟩
instance apg:c7 ai 34 (.slice 3):=⟨Tryz.underlying34⟩
instance aoD:cM ai 34 false 1:=⟨by kernel_rfl,by kernel_rfl⟩
instance aqn:kS ai 34 [.own [] 0]:=⟨by kernel_rfl⟩
instance aoE:cM ai 36 true 6:=⟨by kernel_rfl,by kernel_rfl⟩
instance ap9:jt ai 36 [.val (.int .i64 0), .val (.string ⟨#[]⟩), .val (.int .i64 0), .val (.int .i64 0), .cz, .val (.int .i64 0)]:=⟨by kernel_rfl⟩
instance aqo:kS ai 36 [.val (.int .i64 0), .val (.string ⟨#[]⟩), .val (.int .i64 0), .val (.int .i64 0), .own [] 0, .val (.int .i64 0)]:=⟨by kernel_rfl⟩
instance al9:Fd ai 36 0 0 1 false:=⟨by kernel_rfl⟩
instance ama:Fd ai 36 1 1 1 false:=⟨by kernel_rfl⟩
instance amb:Fd ai 36 2 2 1 false:=⟨by kernel_rfl⟩
instance amc:Fd ai 36 3 3 1 false:=⟨by kernel_rfl⟩
instance amd:Fd ai 36 4 4 1 false:=⟨by kernel_rfl⟩
instance ame:Fd ai 36 5 5 1 false:=⟨by kernel_rfl⟩
instance an3:Pl ai 36 [(0,1,false),(1,1,false),(2,1,false),(3,1,false),(4,1,false),(5,1,false)]:=⟨by kernel_rfl⟩
instance aph:c7 ai 41 (.slice 9):=⟨Tryz.underlying41⟩
instance aoG:cM ai 41 false 1:=⟨by kernel_rfl,by kernel_rfl⟩
instance api:c7 ai 48 (.slice 54):=⟨Tryz.underlying48⟩
instance aoH:cM ai 48 false 1:=⟨by kernel_rfl,by kernel_rfl⟩
instance aqq:kS ai 48 [.own [] 0]:=⟨by kernel_rfl⟩
instance aoJ:cM ai 54 true 3:=⟨by kernel_rfl,by kernel_rfl⟩
instance aqa:jt ai 54 [.val (.string ⟨#[]⟩), .val (.int .i64 0), .cz]:=⟨by kernel_rfl⟩
instance aqr:kS ai 54 [.val (.string ⟨#[]⟩), .val (.int .i64 0), .own [] 0]:=⟨by kernel_rfl⟩
instance amf:Fd ai 54 0 0 1 false:=⟨by kernel_rfl⟩
instance amg:Fd ai 54 1 1 1 false:=⟨by kernel_rfl⟩
instance amh:Fd ai 54 2 2 1 false:=⟨by kernel_rfl⟩
instance an4:Pl ai 54 [(0,1,false),(1,1,false),(2,1,false)]:=⟨by kernel_rfl⟩
instance aoK:cM ai 59 false 1:=⟨by kernel_rfl,by kernel_rfl⟩
instance apk:c7 ai 62 (.slice 111):=⟨Tryz.underlying62⟩
instance aoL:cM ai 62 false 1:=⟨by kernel_rfl,by kernel_rfl⟩
instance ami:Fd ai 70 0 0 1 false:=⟨by kernel_rfl⟩
instance aoM:cM ai 72 true 3:=⟨by kernel_rfl,by kernel_rfl⟩
instance aqb:jt ai 72 [.cz, .cz, .val (.int .i64 0)]:=⟨by kernel_rfl⟩
instance amj:Fd ai 72 0 0 1 true:=⟨by kernel_rfl⟩
instance amk:Fd ai 72 1 1 1 false:=⟨by kernel_rfl⟩
instance aml:Fd ai 72 2 2 1 false:=⟨by kernel_rfl⟩
instance an5:Pl ai 72 [(0,1,true),(1,1,false),(2,1,false)]:=⟨by kernel_rfl⟩
instance aoN:cM ai 77 true 2:=⟨by kernel_rfl,by kernel_rfl⟩
instance aqc:jt ai 77 [.cz, .cz]:=⟨by kernel_rfl⟩
instance aqs:kS ai 77 [.own [] 0, .own [] 0]:=⟨by kernel_rfl⟩
instance amm:Fd ai 77 0 0 1 true:=⟨by kernel_rfl⟩
instance amn:Fd ai 77 1 1 1 false:=⟨by kernel_rfl⟩
instance an6:Pl ai 77 [(0,1,true),(1,1,false)]:=⟨by kernel_rfl⟩
instance aoO:cM ai 81 false 1:=⟨by kernel_rfl,by kernel_rfl⟩
instance aqt:kS ai 81 [.val (.pointer none)]:=⟨by kernel_rfl⟩
instance anJ:vT ai 82 .string (oW 0):=⟨by kernel_rfl⟩
instance aoP:cM ai 82 false 1:=⟨by kernel_rfl,by kernel_rfl⟩
instance aqd:jt ai 82 [.val (.map none)]:=⟨by kernel_rfl⟩
instance apl:c7 ai 83 (.slice 82):=⟨Tryz.underlying83⟩
instance aoQ:cM ai 83 false 1:=⟨by kernel_rfl,by kernel_rfl⟩
instance aoR:cM ai 85 true 3:=⟨by kernel_rfl,by kernel_rfl⟩
instance aqe:jt ai 85 [.cz, .cz, .cz]:=⟨by kernel_rfl⟩
instance amo:Fd ai 85 0 0 1 true:=⟨by kernel_rfl⟩
instance amq:Fd ai 85 1 1 1 false:=⟨by kernel_rfl⟩
instance amr:Fd ai 85 2 2 1 false:=⟨by kernel_rfl⟩
instance an7:Pl ai 85 [(0,1,true),(1,1,false),(2,1,false)]:=⟨by kernel_rfl⟩
instance aoT:cM ai 90 false 1:=⟨by kernel_rfl,by kernel_rfl⟩
instance aqu:kS ai 90 [.val (.pointer none)]:=⟨by kernel_rfl⟩
instance aoU:cM ai 92 true 11:=⟨by kernel_rfl,by kernel_rfl⟩
instance aqg:jt ai 92 [.cz, .cz, .cz, .val (.int .i64 0), .val (.string ⟨#[]⟩), .val (.int .i64 0), .val (.int .i64 0), .cz, .val (.int .i64 0), .val (.int .i64 0), .val (.int .i64 0)]:=⟨by kernel_rfl⟩
instance ams:Fd ai 92 0 0 1 true:=⟨by kernel_rfl⟩
instance amt:Fd ai 92 1 1 1 false:=⟨by kernel_rfl⟩
instance amu:Fd ai 92 2 2 1 false:=⟨by kernel_rfl⟩
instance amv:Fd ai 92 3 3 6 true:=⟨by kernel_rfl⟩
instance amw:Fd ai 92 4 9 1 false:=⟨by kernel_rfl⟩
instance amx:Fd ai 92 5 10 1 false:=⟨by kernel_rfl⟩
instance an8:Pl ai 92 [(0,1,true),(1,1,false),(2,1,false),(3,6,true),(9,1,false),(10,1,false)]:=⟨by kernel_rfl⟩
instance apn:c7 ai 95 (.slice 98):=⟨Tryz.underlying95⟩
instance aoV:cM ai 95 false 1:=⟨by kernel_rfl,by kernel_rfl⟩
instance aqv:kS ai 95 [.own [] 0]:=⟨by kernel_rfl⟩
instance apo:c7 ai 98 (.pointer 3):=⟨Tryz.underlying98⟩
instance aoW:cM ai 98 false 1:=⟨by kernel_rfl,by kernel_rfl⟩
instance aqw:kS ai 98 [.val (.pointer none)]:=⟨by kernel_rfl⟩
instance anI:vT ai 101 (.int .i64) (Br false):=⟨by kernel_rfl⟩
instance aos:cM ai 101 false 1:=⟨by kernel_rfl,by kernel_rfl⟩
instance aqh:kS ai 101 [.val (.map none)]:=⟨by kernel_rfl⟩
instance ao4:c7 ai 103 (.interface #[("Error",237)]):=⟨Tryz.underlying103⟩
instance aot:cM ai 103 false 1:=⟨by kernel_rfl,by kernel_rfl⟩
instance ap2:jt ai 106 [.val (.int .i64 0), .val (.int .i64 0)]:=⟨by kernel_rfl⟩
instance anX:Pl ai 106 [(0,2,true)]:=⟨by kernel_rfl⟩
instance aou:cM ai 111 true 4:=⟨by kernel_rfl,by kernel_rfl⟩
instance ap3:jt ai 111 [.val (.int .i64 0), .val (.string ⟨#[]⟩), .val (.int .i64 0), .val (.int .i64 0)]:=⟨by kernel_rfl⟩
instance aqi:kS ai 111 [.val (.int .i64 0), .val (.string ⟨#[]⟩), .val (.int .i64 0), .val (.int .i64 0)]:=⟨by kernel_rfl⟩
instance al1:Fd ai 111 0 0 1 false:=⟨by kernel_rfl⟩
instance al2:Fd ai 111 1 1 1 false:=⟨by kernel_rfl⟩
instance al3:Fd ai 111 2 2 1 false:=⟨by kernel_rfl⟩
instance al4:Fd ai 111 3 3 1 false:=⟨by kernel_rfl⟩
instance anY:Pl ai 111 [(0,1,false),(1,1,false),(2,1,false),(3,1,false)]:=⟨by kernel_rfl⟩
instance aov:cM ai 144 true 2:=⟨by kernel_rfl,by kernel_rfl⟩
instance ap4:jt ai 144 [.val (.int .i64 0), .val (.bool false)]:=⟨by kernel_rfl⟩
instance aqj:kS ai 144 [.val (.int .i64 0), .val (.bool false)]:=⟨by kernel_rfl⟩
instance al5:Fd ai 144 0 0 1 false:=⟨by kernel_rfl⟩
instance al6:Fd ai 144 1 1 1 false:=⟨by kernel_rfl⟩
instance anZ:Pl ai 144 [(0,1,false),(1,1,false)]:=⟨by kernel_rfl⟩
instance ao5:c7 ai 161 (.array 10 41):=⟨Tryz.underlying161⟩
instance ao6:c7 ai 196 (.array 13 9):=⟨Tryz.underlying196⟩
instance aow:cM ai 196 true 13:=⟨by kernel_rfl,by kernel_rfl⟩
instance ao8:c7 ai 201 (.array 43 9):=⟨Tryz.underlying201⟩
instance aox:cM ai 201 true 43:=⟨by kernel_rfl,by kernel_rfl⟩
instance ao9:c7 ai 203 (.int .u64):=⟨Tryz.underlying203⟩
instance apa:c7 ai 208 (.int .i64):=⟨Tryz.underlying208⟩
instance alJ:EE ai 208:=⟨by kernel_rfl⟩
instance apb:c7 ai 209 (.int .u64):=⟨Tryz.underlying209⟩
instance apc:c7 ai 212 (.pointer 218):=⟨Tryz.underlying212⟩
instance apd:c7 ai 216 (.slice 5):=⟨Tryz.underlying216⟩
instance aoy:cM ai 218 true 3:=⟨by kernel_rfl,by kernel_rfl⟩
instance ap5:jt ai 218 [.val (.string ⟨#[]⟩), .val (.string ⟨#[]⟩), .val .nilIface]:=⟨by kernel_rfl⟩
instance an0:Pl ai 218 [(0,1,false),(1,1,false),(2,1,false)]:=⟨by kernel_rfl⟩
instance alp:oY ai 3 1:=⟨by kernel_rfl⟩
instance alq:oY ai 36 6:=⟨by kernel_rfl⟩
instance alr:oY ai 54 3:=⟨by kernel_rfl⟩
instance als:oY ai 82 1:=⟨by kernel_rfl⟩
instance alu:oY ai 98 1:=⟨by kernel_rfl⟩
instance alo:oY ai 111 4:=⟨by kernel_rfl⟩
structure aI where
 Kind:Int
 Text:ByteArray
 N:Int
 eJ:Int
 Kids:(List Int)
 cx:Int
 deriving DecidableEq,Inhabited
structure b6 where aB:(List aI)deriving DecidableEq,Inhabited
structure aV where
 Code:Int
 cx:Int
 deriving DecidableEq,Inhabited
structure bP where
 Kind:Int
 Text:ByteArray
 N:Int
 cx:Int
 deriving DecidableEq,Inhabited
structure sF where
 Func:ByteArray
 Vv:ByteArray
 Vo:dA
 deriving DecidableEq,Inhabited
structure az where
 bR:b6
 l:(List bP)
 end_:Int
 deriving DecidableEq,Inhabited
structure js where
 t:b6
 first:(List Int)
 deriving DecidableEq,Inhabited
structure jM where
 Op:Int
 qg:Bool
 deriving DecidableEq,Inhabited
structure aE where
 t:b6
 out:(List Int)
 room:((List (List (ByteArray×Int)))×Nat)
 deriving DecidableEq,Inhabited
structure cG where
 t:b6
 names:(List Int)
 cl:(List Int)
 fn:aI
 loops:Int
 leave:Int
 deriving DecidableEq,Inhabited
structure gw where
 Name:ByteArray
 eJ:Int
 Init:(List Int)
 deriving DecidableEq,Inhabited
def bl(x:Int):List U:=[(I x)]
instance:iw bl:=⟨fun x=>rfl⟩
instance:oa bl:=⟨fun x=>rfl,fun x=>rfl⟩
instance:yR bl bl:=⟨fun x=>rfl⟩
def bK(x:aI):List U:=[(I x.Kind),(U.val (.string x.Text)),(I x.N),(I x.eJ),(.sl ((x.Kids).map bl)),(I x.cx)]
instance:iw bK:=⟨fun x=>rfl⟩
instance:oa bK:=⟨fun x=>rfl,fun x=>rfl⟩
instance:yR bK bK:=⟨fun x=>rfl⟩
def eT(x:b6):List U:=[(.sl ((x.aB).map bK))]
def dD(x:aV):List U:=[(I x.Code),(I x.cx)]
def Fk(x:Int):List U:=[(U.val (.int .u8 x))]
def Fl(x:sF):List U:=[(U.val (.string x.Func)),(U.val (.string x.Vv)),(gN 208 x.Vo)]
def dM(x:bP):List U:=[(I x.Kind),(U.val (.string x.Text)),(I x.N),(I x.cx)]
instance:iw dM:=⟨fun x=>rfl⟩
instance:oa dM:=⟨fun x=>rfl,fun x=>rfl⟩
instance:yR dM dM:=⟨fun x=>rfl⟩
def bZ(x:az):List U:=[(.own ((x.bR.aB).map bK) (x.bR.aB).length),(.sl ((x.l).map dM)),(I x.end_)]
def zf(x:ByteArray):List U:=[(U.val (.string x))]
def wA(x:b6):List U:=[(.own ((x.aB).map bK) (x.aB).length)]
instance:iw wA:=⟨fun x=>by simp only[wA,FJ,FK,FP,FR,FQ,FO,FN,GE,GT,ov]⟩
def wB(x:js):List U:=[(.sl ((x.t.aB).map bK)),(.own ((x.first).map bl) (x.first).length)]
def OH(x:jM):List U:=[(I x.Op),(B x.qg)]
def IW(x:(List (ByteArray×Int))):List U:=[(.im ((x).map (mw yI oW)))]
def B3(x:(List (ByteArray×Int))):List U:=[(.ey ((x).map (mw yI oW)))]
instance:iw B3:=⟨fun x=>by simp only[B3,FJ,FK,FP,FR,FQ,FO,FN,GE,GT,ov]⟩
instance:yN B3 IW:=⟨fun L n x=>by simp only[B3,IW];exact Zy,fun x=>rfl⟩
def IL(x:aE):List U:=[(.sl ((x.t.aB).map bK)),(.sl ((x.out).map bl)),(.sl (((List.take x.room.2 x.room.1)).map IW))]
def ec(x:aE):List U:=[(.sl ((x.t.aB).map bK)),(.own ((x.out).map bl) (x.out).length),(.own ((x.room).1.map B3) (x.room).2)]
instance:iw ec:=⟨fun x=>by simp only[ec,FJ,FK,FP,FR,FQ,FO,FN,GE,GT,ov]⟩
def lz(x:cG):List U:=[(.sl ((x.t.aB).map bK)),(.sl ((x.names).map bl)),(.sl ((x.cl).map bl)),(I x.fn.Kind),(U.val (.string x.fn.Text)),(I x.fn.N),(I x.fn.eJ),(.sl ((x.fn.Kids).map bl)),(I x.fn.cx),(I x.loops),(I x.leave)]
def og(x:cG):List U:=[(.sl ((x.t.aB).map bK)),(.sl ((x.names).map bl)),(.own ((x.cl).map bl) (x.cl).length),(I x.fn.Kind),(U.val (.string x.fn.Text)),(I x.fn.N),(I x.fn.eJ),(.sl ((x.fn.Kids).map bl)),(I x.fn.cx),(I x.loops),(I x.leave)]
instance:iw og:=⟨fun x=>by simp only[og,FJ,FK,FP,FR,FQ,FO,FN,GE,GT,ov]⟩
def zq(x:(List (Option Int))):List U:=[(.sl ((x).map jO))]
def mN(x:gw):List U:=[(U.val (.string x.Name)),(I x.eJ),(.sl ((x.Init).map bl))]
instance:iw mN:=⟨fun x=>rfl⟩
instance:oa mN:=⟨fun x=>rfl,fun x=>rfl⟩
instance:yR mN mN:=⟨fun x=>rfl⟩
def OG(x:gw):List U:=[(U.val (.string x.Name)),(I x.eJ),(.own ((x.Init).map bl) (x.Init).length)]
theorem nF(x y:Operand){vh q0:Int}{p1 q1:Int}:eD ai.P .neq 26 x y (.agg ⟨[.int .i64 vh, .int .i64 p1]⟩) (.agg ⟨[.int .i64 q0, .int .i64 q1]⟩)=some (.bool (!((vh==q0)&&((p1==q1)&&true)))):=Y8 (P:=Tryz.prog) Tryz.underlying26 Tryz.stoodInHeld26 Tryz.eqGuardType26 (by simp[zx,Tryz.underlying3,fits,Hw])
end Go.Ab
