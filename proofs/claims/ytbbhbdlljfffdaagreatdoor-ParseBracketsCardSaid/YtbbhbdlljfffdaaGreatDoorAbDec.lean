import Derived.Test.YtbbhbdlljfffdaaGreatDoorAbCx
set_option linter.all false
namespace Go.Ab
open Go Go.Proofs
variable[j5]
instance atM:eP ax 2 (.int .i64):=⟨Tryz.underlying2⟩
instance atV:eP ax 3 (.int .i64):=⟨Tryz.underlying3⟩
instance atp:eD ax 3 false 1:=⟨by kernel_rfl,by kernel_rfl⟩
instance auQ:mQ ax 3 [.val (.int .i64 0)]:=⟨by kernel_rfl⟩
instance auZ:u6 ax 3 [.val (.int .i64 0)]:=⟨by kernel_rfl⟩
instance atY:eP ax 5 (.int .u8):=⟨Tryz.underlying5⟩
instance atu:eD ax 5 false 1:=⟨by kernel_rfl,by kernel_rfl⟩
instance at0:eP ax 9 .string:=⟨Tryz.underlying9⟩
instance atz:eD ax 9 false 1:=⟨by kernel_rfl,by kernel_rfl⟩
instance auU:mQ ax 9 [.val (.string ⟨#[]⟩)]:=⟨by kernel_rfl⟩
instance atU:eP ax 22 (.slice 36):=⟨Tryz.underlying22⟩
instance atm:eD ax 22 false 1:=⟨by kernel_rfl,by kernel_rfl⟩
instance atn:eD ax 24 true 1:=⟨by kernel_rfl,by kernel_rfl⟩
instance auO:mQ ax 24 [.cB]:=⟨by kernel_rfl⟩
instance auX:u6 ax 24 [.own [] 0]:=⟨by kernel_rfl⟩
instance aqp:Fd ax 24 0 0 1 false:=⟨by kernel_rfl⟩
instance asN:Pl ax 24 [(0,1,false)]:=⟨by kernel_rfl⟩
instance ato:eD ax 26 true 2:=⟨by kernel_rfl,by kernel_rfl⟩
instance auP:mQ ax 26 [.val (.int .i64 0), .val (.int .i64 0)]:=⟨by kernel_rfl⟩
instance auY:u6 ax 26 [.val (.int .i64 0), .val (.int .i64 0)]:=⟨by kernel_rfl⟩
instance aqq:Fd ax 26 0 0 1 false:=⟨by kernel_rfl⟩
instance asO:Pl ax 26 [(0,1,false),(1,1,false)]:=⟨by kernel_rfl⟩
instance atW:eP ax 34 (.slice 3):=⟨Tryz.underlying34⟩
instance atq:eD ax 34 false 1:=⟨by kernel_rfl,by kernel_rfl⟩
instance atr:eD ax 36 true 6:=⟨by kernel_rfl,by kernel_rfl⟩
instance auR:mQ ax 36 [.val (.int .i64 0), .val (.string ⟨#[]⟩), .val (.int .i64 0), .val (.int .i64 0), .cB, .val (.int .i64 0)]:=⟨by kernel_rfl⟩
instance au0:u6 ax 36 [.val (.int .i64 0), .val (.string ⟨#[]⟩), .val (.int .i64 0), .val (.int .i64 0), .own [] 0, .val (.int .i64 0)]:=⟨by kernel_rfl⟩
instance aqr:Fd ax 36 0 0 1 false:=⟨by kernel_rfl⟩
instance aqs:Fd ax 36 1 1 1 false:=⟨by kernel_rfl⟩
instance aqt:Fd ax 36 2 2 1 false:=⟨by kernel_rfl⟩
instance aqu:Fd ax 36 3 3 1 false:=⟨by kernel_rfl⟩
instance aqv:Fd ax 36 4 4 1 false:=⟨by kernel_rfl⟩
instance aqw:Fd ax 36 5 5 1 false:=⟨by kernel_rfl⟩
instance asP:Pl ax 36 [(0,1,false),(1,1,false),(2,1,false),(3,1,false),(4,1,false),(5,1,false)]:=⟨by kernel_rfl⟩
instance atX:eP ax 41 (.slice 9):=⟨Tryz.underlying41⟩
instance att:eD ax 41 false 1:=⟨by kernel_rfl,by kernel_rfl⟩
instance atv:eD ax 59 false 1:=⟨by kernel_rfl,by kernel_rfl⟩
instance atZ:eP ax 62 (.slice 111):=⟨Tryz.underlying62⟩
instance atw:eD ax 62 false 1:=⟨by kernel_rfl,by kernel_rfl⟩
instance aqx:Fd ax 70 0 0 1 false:=⟨by kernel_rfl⟩
instance atx:eD ax 72 true 3:=⟨by kernel_rfl,by kernel_rfl⟩
instance auS:mQ ax 72 [.cB, .cB, .val (.int .i64 0)]:=⟨by kernel_rfl⟩
instance aqy:Fd ax 72 0 0 1 true:=⟨by kernel_rfl⟩
instance aqz:Fd ax 72 1 1 1 false:=⟨by kernel_rfl⟩
instance aqA:Fd ax 72 2 2 1 false:=⟨by kernel_rfl⟩
instance asQ:Pl ax 72 [(0,1,true),(1,1,false),(2,1,false)]:=⟨by kernel_rfl⟩
instance aty:eD ax 77 true 2:=⟨by kernel_rfl,by kernel_rfl⟩
instance auT:mQ ax 77 [.cB, .cB]:=⟨by kernel_rfl⟩
instance au1:u6 ax 77 [.own [] 0, .own [] 0]:=⟨by kernel_rfl⟩
instance aqB:Fd ax 77 0 0 1 true:=⟨by kernel_rfl⟩
instance aqC:Fd ax 77 1 1 1 false:=⟨by kernel_rfl⟩
instance asR:Pl ax 77 [(0,1,true),(1,1,false)]:=⟨by kernel_rfl⟩
instance atJ:eP ax 103 (.interface #[("Error",237)]):=⟨Tryz.underlying103⟩
instance atg:eD ax 103 false 1:=⟨by kernel_rfl,by kernel_rfl⟩
instance auK:mQ ax 106 [.val (.int .i64 0), .val (.int .i64 0)]:=⟨by kernel_rfl⟩
instance asJ:Pl ax 106 [(0,2,true)]:=⟨by kernel_rfl⟩
instance ath:eD ax 111 true 4:=⟨by kernel_rfl,by kernel_rfl⟩
instance auL:mQ ax 111 [.val (.int .i64 0), .val (.string ⟨#[]⟩), .val (.int .i64 0), .val (.int .i64 0)]:=⟨by kernel_rfl⟩
instance auV:u6 ax 111 [.val (.int .i64 0), .val (.string ⟨#[]⟩), .val (.int .i64 0), .val (.int .i64 0)]:=⟨by kernel_rfl⟩
instance aqk:Fd ax 111 0 0 1 false:=⟨by kernel_rfl⟩
instance aql:Fd ax 111 1 1 1 false:=⟨by kernel_rfl⟩
instance aqm:Fd ax 111 2 2 1 false:=⟨by kernel_rfl⟩
instance aqn:Fd ax 111 3 3 1 false:=⟨by kernel_rfl⟩
instance asK:Pl ax 111 [(0,1,false),(1,1,false),(2,1,false),(3,1,false)]:=⟨by kernel_rfl⟩
instance ati:eD ax 144 true 2:=⟨by kernel_rfl,by kernel_rfl⟩
instance auM:mQ ax 144 [.val (.int .i64 0), .val (.bool false)]:=⟨by kernel_rfl⟩
instance auW:u6 ax 144 [.val (.int .i64 0), .val (.bool false)]:=⟨by kernel_rfl⟩
instance aqo:Fd ax 144 0 0 1 false:=⟨by kernel_rfl⟩
instance asL:Pl ax 144 [(0,1,false),(1,1,false)]:=⟨by kernel_rfl⟩
instance atK:eP ax 161 (.array 10 41):=⟨Tryz.underlying161⟩
instance atL:eP ax 196 (.array 13 9):=⟨Tryz.underlying196⟩
instance atj:eD ax 196 true 13:=⟨by kernel_rfl,by kernel_rfl⟩
instance atN:eP ax 201 (.array 43 9):=⟨Tryz.underlying201⟩
instance atk:eD ax 201 true 43:=⟨by kernel_rfl,by kernel_rfl⟩
instance atO:eP ax 203 (.int .u64):=⟨Tryz.underlying203⟩
instance atP:eP ax 208 (.int .i64):=⟨Tryz.underlying208⟩
instance apX:HE ax 208:=⟨by kernel_rfl⟩
instance atQ:eP ax 209 (.int .u64):=⟨Tryz.underlying209⟩
instance atS:eP ax 212 (.pointer 218):=⟨Tryz.underlying212⟩
instance atT:eP ax 216 (.slice 5):=⟨Tryz.underlying216⟩
instance atl:eD ax 218 true 3:=⟨by kernel_rfl,by kernel_rfl⟩
instance auN:mQ ax 218 [.val (.string ⟨#[]⟩), .val (.string ⟨#[]⟩), .val .nilIface]:=⟨by kernel_rfl⟩
instance asM:Pl ax 218 [(0,1,false),(1,1,false),(2,1,false)]:=⟨by kernel_rfl⟩
instance apu:wN ax 3 1:=⟨by kernel_rfl⟩
instance apv:wN ax 36 6:=⟨by kernel_rfl⟩
instance apt:wN ax 111 4:=⟨by kernel_rfl⟩
instance ar1:KX ax 106:=⟨by kernel_rfl⟩
structure aA where
 Kind:Int
 Text:ByteArray
 N:Int
 gG:Int
 Kids:(List Int)
 aQ:Int
 deriving DecidableEq,Inhabited
structure bC where aV:(List aA)deriving DecidableEq,Inhabited
structure eR where
 Code:Int
 aQ:Int
 deriving DecidableEq,Inhabited
structure bu where
 Kind:Int
 Text:ByteArray
 N:Int
 aQ:Int
 deriving DecidableEq,Inhabited
structure u5 where
 Func:ByteArray
 Yw:ByteArray
 Yn:cz
 deriving DecidableEq,Inhabited
structure aj where
 bI:bC
 l:(List bu)
 end_:Int
 deriving DecidableEq,Inhabited
structure H8 where Qn:eR deriving DecidableEq,Inhabited
structure ak where
 aV:(List aA)
 Left:(List bu)
 End:Int
 bJ:eR
 dN:Int
 deriving DecidableEq,Inhabited
structure j7 where
 t:bC
 first:(List Int)
 deriving DecidableEq,Inhabited
structure lf where
 Op:Int
 abj:Bool
 deriving DecidableEq,Inhabited
def mR(x:eR):List U:=[(I x.Code),(I x.aQ)]
def Ir(x:Int):List U:=[(U.val (.int .u8 x))]
def Is(x:u5):List U:=[(U.val (.string x.Func)),(U.val (.string x.Yw)),(iI 208 x.Yn)]
def ek(x:bu):List U:=[(I x.Kind),(U.val (.string x.Text)),(I x.N),(I x.aQ)]
instance:qN ek:=⟨fun x=>rfl⟩
instance:wQ ek:=⟨fun x=>rfl,fun x=>rfl⟩
instance:HH ek ek:=⟨fun x=>rfl⟩
def c4(x:Int):List U:=[(I x)]
instance:qN c4:=⟨fun x=>rfl⟩
instance:wQ c4:=⟨fun x=>rfl,fun x=>rfl⟩
instance:HH c4 c4:=⟨fun x=>rfl⟩
def dn(x:aA):List U:=[(I x.Kind),(U.val (.string x.Text)),(I x.N),(I x.gG),(.sl ((x.Kids).map c4)),(I x.aQ)]
instance:qN dn:=⟨fun x=>rfl⟩
instance:wQ dn:=⟨fun x=>rfl,fun x=>rfl⟩
instance:HH dn dn:=⟨fun x=>rfl⟩
def aX(x:aj):List U:=[(.own ((x.bI.aV).map dn) (x.bI.aV).length),(.sl ((x.l).map ek)),(I x.end_)]
def BF(x:ByteArray):List U:=[(U.val (.string x))]
def ve(x:bC):List U:=[(.sl ((x.aV).map dn))]
def se(x:bC):List U:=[(.own ((x.aV).map dn) (x.aV).length)]
instance:qN se:=⟨fun x=>by simp only[se,aeT,aeU,aeY,ae0,aeZ,aeX,aeW,Bool.and_true,Bool.and_self,xo]⟩
def zh(x:j7):List U:=[(.sl ((x.t.aV).map dn)),(.own ((x.first).map c4) (x.first).length)]
def acQ(x:lf):List U:=[(I x.Op),(B x.abj)]
abbrev gN(x:H8):Value:= .iface 106 (.agg ⟨[.int .i64 x.Qn.Code, .int .i64 x.Qn.aQ]⟩)
theorem IK(x y:Operand){kr q0:Int}{p1 q1:Int}:fm ax.P .neq 26 x y (.agg ⟨[.int .i64 kr, .int .i64 p1]⟩) (.agg ⟨[.int .i64 q0, .int .i64 q1]⟩)=some (.bool (!((kr==q0)&&((p1==q1)&&true)))):=acf (P:=Tryz.prog) Tryz.underlying26 Tryz.stoodInHeld26 Tryz.eqGuardType26 (by simp[BP,Tryz.underlying3,fits,Kw])
end Go.Ab
namespace Go.Ab
open Go Go.Proofs
variable[j5]
end Go.Ab
