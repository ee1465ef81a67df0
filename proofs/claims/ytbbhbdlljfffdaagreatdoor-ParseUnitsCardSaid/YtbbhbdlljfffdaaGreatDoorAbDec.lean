import Derived.Test.YtbbhbdlljfffdaaGreatDoorAbCx
set_option linter.all false
namespace Go.Ab
open Go Go.Proofs
variable[kU]
instance aq7:eL ak 2 (.int .i64):=⟨Tryz.underlying2⟩
instance arf:eL ak 3 (.int .i64):=⟨Tryz.underlying3⟩
instance aqK:eK ak 3 false 1:=⟨by kernel_rfl,by kernel_rfl⟩
instance ar8:mV ak 3 [.val (.int .i64 0)]:=⟨by kernel_rfl⟩
instance ash:wG ak 3 [.val (.int .i64 0)]:=⟨by kernel_rfl⟩
instance arj:eL ak 5 (.int .u8):=⟨Tryz.underlying5⟩
instance aqO:eK ak 5 false 1:=⟨by kernel_rfl,by kernel_rfl⟩
instance arl:eL ak 9 .string:=⟨Tryz.underlying9⟩
instance aqT:eK ak 9 false 1:=⟨by kernel_rfl,by kernel_rfl⟩
instance asd:mV ak 9 [.val (.string ⟨#[]⟩)]:=⟨by kernel_rfl⟩
instance are:eL ak 22 (.slice 36):=⟨Tryz.underlying22⟩
instance aqH:eK ak 22 false 1:=⟨by kernel_rfl,by kernel_rfl⟩
instance aqI:eK ak 24 true 1:=⟨by kernel_rfl,by kernel_rfl⟩
instance ar6:mV ak 24 [.cI]:=⟨by kernel_rfl⟩
instance asf:wG ak 24 [.own [] 0]:=⟨by kernel_rfl⟩
instance anG:Fd ak 24 0 0 1 false:=⟨by kernel_rfl⟩
instance ap3:Pl ak 24 [(0,1,false)]:=⟨by kernel_rfl⟩
instance aqJ:eK ak 26 true 2:=⟨by kernel_rfl,by kernel_rfl⟩
instance ar7:mV ak 26 [.val (.int .i64 0), .val (.int .i64 0)]:=⟨by kernel_rfl⟩
instance asg:wG ak 26 [.val (.int .i64 0), .val (.int .i64 0)]:=⟨by kernel_rfl⟩
instance anH:Fd ak 26 0 0 1 false:=⟨by kernel_rfl⟩
instance ap4:Pl ak 26 [(0,1,false),(1,1,false)]:=⟨by kernel_rfl⟩
instance arh:eL ak 34 (.slice 3):=⟨Tryz.underlying34⟩
instance aqL:eK ak 34 false 1:=⟨by kernel_rfl,by kernel_rfl⟩
instance aqM:eK ak 36 true 6:=⟨by kernel_rfl,by kernel_rfl⟩
instance ar9:mV ak 36 [.val (.int .i64 0), .val (.string ⟨#[]⟩), .val (.int .i64 0), .val (.int .i64 0), .cI, .val (.int .i64 0)]:=⟨by kernel_rfl⟩
instance asi:wG ak 36 [.val (.int .i64 0), .val (.string ⟨#[]⟩), .val (.int .i64 0), .val (.int .i64 0), .own [] 0, .val (.int .i64 0)]:=⟨by kernel_rfl⟩
instance anI:Fd ak 36 0 0 1 false:=⟨by kernel_rfl⟩
instance anJ:Fd ak 36 1 1 1 false:=⟨by kernel_rfl⟩
instance anK:Fd ak 36 2 2 1 false:=⟨by kernel_rfl⟩
instance anL:Fd ak 36 3 3 1 false:=⟨by kernel_rfl⟩
instance anM:Fd ak 36 4 4 1 false:=⟨by kernel_rfl⟩
instance anN:Fd ak 36 5 5 1 false:=⟨by kernel_rfl⟩
instance ap5:Pl ak 36 [(0,1,false),(1,1,false),(2,1,false),(3,1,false),(4,1,false),(5,1,false)]:=⟨by kernel_rfl⟩
instance ari:eL ak 41 (.slice 9):=⟨Tryz.underlying41⟩
instance aqN:eK ak 41 false 1:=⟨by kernel_rfl,by kernel_rfl⟩
instance asa:mV ak 41 [.cI]:=⟨by kernel_rfl⟩
instance aqP:eK ak 59 false 1:=⟨by kernel_rfl,by kernel_rfl⟩
instance ark:eL ak 62 (.slice 111):=⟨Tryz.underlying62⟩
instance aqQ:eK ak 62 false 1:=⟨by kernel_rfl,by kernel_rfl⟩
instance aqR:eK ak 66 true 6:=⟨by kernel_rfl,by kernel_rfl⟩
instance asb:mV ak 66 [.cI, .cI, .val (.int .i64 0), .val (.int .i64 0), .val (.int .i64 0), .val (.int .i64 0)]:=⟨by kernel_rfl⟩
instance asj:wG ak 66 [.own [] 0, .own [] 0, .val (.int .i64 0), .val (.int .i64 0), .val (.int .i64 0), .val (.int .i64 0)]:=⟨by kernel_rfl⟩
instance anO:Fd ak 66 0 0 1 false:=⟨by kernel_rfl⟩
instance anP:Fd ak 66 1 1 1 false:=⟨by kernel_rfl⟩
instance anQ:Fd ak 66 2 2 1 false:=⟨by kernel_rfl⟩
instance anR:Fd ak 66 3 3 2 true:=⟨by kernel_rfl⟩
instance anS:Fd ak 66 4 5 1 false:=⟨by kernel_rfl⟩
instance ap6:Pl ak 66 [(0,1,false),(1,1,false),(2,1,false),(3,2,true),(5,1,false)]:=⟨by kernel_rfl⟩
instance anT:Fd ak 70 0 0 1 false:=⟨by kernel_rfl⟩
instance aqS:eK ak 72 true 3:=⟨by kernel_rfl,by kernel_rfl⟩
instance asc:mV ak 72 [.cI, .cI, .val (.int .i64 0)]:=⟨by kernel_rfl⟩
instance anU:Fd ak 72 0 0 1 true:=⟨by kernel_rfl⟩
instance anV:Fd ak 72 1 1 1 false:=⟨by kernel_rfl⟩
instance anW:Fd ak 72 2 2 1 false:=⟨by kernel_rfl⟩
instance ap7:Pl ak 72 [(0,1,true),(1,1,false),(2,1,false)]:=⟨by kernel_rfl⟩
instance aq3:eL ak 103 (.interface #[("Error",237)]):=⟨Tryz.underlying103⟩
instance aqC:eK ak 103 false 1:=⟨by kernel_rfl,by kernel_rfl⟩
instance ar3:mV ak 106 [.val (.int .i64 0), .val (.int .i64 0)]:=⟨by kernel_rfl⟩
instance ap0:Pl ak 106 [(0,2,true)]:=⟨by kernel_rfl⟩
instance aqD:eK ak 111 true 4:=⟨by kernel_rfl,by kernel_rfl⟩
instance ar4:mV ak 111 [.val (.int .i64 0), .val (.string ⟨#[]⟩), .val (.int .i64 0), .val (.int .i64 0)]:=⟨by kernel_rfl⟩
instance ase:wG ak 111 [.val (.int .i64 0), .val (.string ⟨#[]⟩), .val (.int .i64 0), .val (.int .i64 0)]:=⟨by kernel_rfl⟩
instance anC:Fd ak 111 0 0 1 false:=⟨by kernel_rfl⟩
instance anD:Fd ak 111 1 1 1 false:=⟨by kernel_rfl⟩
instance anE:Fd ak 111 2 2 1 false:=⟨by kernel_rfl⟩
instance anF:Fd ak 111 3 3 1 false:=⟨by kernel_rfl⟩
instance ap1:Pl ak 111 [(0,1,false),(1,1,false),(2,1,false),(3,1,false)]:=⟨by kernel_rfl⟩
instance aq4:eL ak 161 (.array 10 41):=⟨Tryz.underlying161⟩
instance aq5:eL ak 192 (.slice 41):=⟨Tryz.underlying192⟩
instance aq6:eL ak 196 (.array 13 9):=⟨Tryz.underlying196⟩
instance aqE:eK ak 196 true 13:=⟨by kernel_rfl,by kernel_rfl⟩
instance aq8:eL ak 201 (.array 43 9):=⟨Tryz.underlying201⟩
instance aqF:eK ak 201 true 43:=⟨by kernel_rfl,by kernel_rfl⟩
instance aq9:eL ak 203 (.int .u64):=⟨Tryz.underlying203⟩
instance ara:eL ak 208 (.int .i64):=⟨Tryz.underlying208⟩
instance anc:GN ak 208:=⟨by kernel_rfl⟩
instance arb:eL ak 209 (.int .u64):=⟨Tryz.underlying209⟩
instance arc:eL ak 212 (.pointer 218):=⟨Tryz.underlying212⟩
instance ard:eL ak 216 (.slice 5):=⟨Tryz.underlying216⟩
instance aqG:eK ak 218 true 3:=⟨by kernel_rfl,by kernel_rfl⟩
instance ar5:mV ak 218 [.val (.string ⟨#[]⟩), .val (.string ⟨#[]⟩), .val .nilIface]:=⟨by kernel_rfl⟩
instance ap2:Pl ak 218 [(0,1,false),(1,1,false),(2,1,false)]:=⟨by kernel_rfl⟩
instance amH:uo ak 3 1:=⟨by kernel_rfl⟩
instance amI:uo ak 36 6:=⟨by kernel_rfl⟩
instance amG:uo ak 111 4:=⟨by kernel_rfl⟩
instance apk:JT ak 106:=⟨by kernel_rfl⟩
structure aE where
 Kind:Int
 Text:ByteArray
 N:Int
 nK:Int
 Kids:(List Int)
 aQ:Int
 deriving DecidableEq,Inhabited
structure b6 where bl:(List aE)deriving DecidableEq,Inhabited
structure cu where
 Code:Int
 aQ:Int
 deriving DecidableEq,Inhabited
structure aX where
 Kind:Int
 Text:ByteArray
 N:Int
 aQ:Int
 deriving DecidableEq,Inhabited
structure uD where
 Func:ByteArray
 V6:ByteArray
 VX:cJ
 deriving DecidableEq,Inhabited
structure an where
 bP:b6
 l:(List aX)
 end_:Int
 deriving DecidableEq,Inhabited
structure Hg where OG:cu deriving DecidableEq,Inhabited
structure af where
 bl:(List aE)
 Left:(List aX)
 End:Int
 bJ:cu
 dm:Int
 deriving DecidableEq,Inhabited
def jG(x:cu):List U:=[(I x.Code),(I x.aQ)]
def HA(x:Int):List U:=[(U.val (.int .u8 x))]
def HB(x:uD):List U:=[(U.val (.string x.Func)),(U.val (.string x.V6)),(iU 208 x.VX)]
def cK(x:aX):List U:=[(I x.Kind),(U.val (.string x.Text)),(I x.N),(I x.aQ)]
instance:qC cK:=⟨fun x=>rfl⟩
instance:wm cK:=⟨fun x=>rfl,fun x=>rfl⟩
instance:GQ cK cK:=⟨fun x=>rfl⟩
def cg(x:Int):List U:=[(I x)]
instance:qC cg:=⟨fun x=>rfl⟩
instance:wm cg:=⟨fun x=>rfl,fun x=>rfl⟩
instance:GQ cg cg:=⟨fun x=>rfl⟩
def ec(x:aE):List U:=[(I x.Kind),(U.val (.string x.Text)),(I x.N),(I x.nK),(.sl ((x.Kids).map cg)),(I x.aQ)]
instance:qC ec:=⟨fun x=>rfl⟩
instance:wm ec:=⟨fun x=>rfl,fun x=>rfl⟩
instance:GQ ec ec:=⟨fun x=>rfl⟩
def bp(x:an):List U:=[(.own ((x.bP.bl).map ec) (x.bP.bl).length),(.sl ((x.l).map cK)),(I x.end_)]
def Bz(x:ByteArray):List U:=[(U.val (.string x))]
def qK(x:b6):List U:=[(.sl ((x.bl).map ec))]
def td(x:b6):List U:=[(.own ((x.bl).map ec) (x.bl).length)]
instance:qC td:=⟨fun x=>by simp only[td,acG,acH,acL,acN,acM,acK,acJ,Bool.and_true,Bool.and_self,wT]⟩
def bf(x:af):List U:=[(.sl ((x.bl).map ec)),(.sl ((x.Left).map cK)),(I x.End),(I x.bJ.Code),(I x.bJ.aQ),(I x.dm)]
def gl(x:af):List U:=[(.own ((x.bl).map ec) (x.bl).length),(.own ((x.Left).map cK) (x.Left).length),(I x.End),(I x.bJ.Code),(I x.bJ.aQ),(I x.dm)]
def QI(x:(List ByteArray)):List U:=[(.sl ((x).map Bz))]
def Qn(x:aE):List U:=[(I x.Kind),(U.val (.string x.Text)),(I x.N),(I x.nK),(.own ((x.Kids).map cg) (x.Kids).length),(I x.aQ)]
abbrev gP(x:Hg):Value:= .iface 106 (.agg ⟨[.int .i64 x.OG.Code, .int .i64 x.OG.aQ]⟩)
theorem abZ(x y:Operand){jX q0:Int}{p1 q1:Int}:fE ak.P .eql 26 x y (.agg ⟨[.int .i64 jX, .int .i64 p1]⟩) (.agg ⟨[.int .i64 q0, .int .i64 q1]⟩)=some (.bool ((jX==q0)&&((p1==q1)&&true))):=Z3 (P:=Tryz.prog) Tryz.underlying26 Tryz.stoodInHeld26 Tryz.eqGuardType26 (by simp[wM,Tryz.underlying3,fits,Gg])
theorem ab0(x y:Operand){jX q0:Int}{p1 q1:Int}:fE ak.P .neq 26 x y (.agg ⟨[.int .i64 jX, .int .i64 p1]⟩) (.agg ⟨[.int .i64 q0, .int .i64 q1]⟩)=some (.bool (!((jX==q0)&&((p1==q1)&&true)))):=aab (P:=Tryz.prog) Tryz.underlying26 Tryz.stoodInHeld26 Tryz.eqGuardType26 (by simp[wM,Tryz.underlying3,fits,Gg])
end Go.Ab
namespace Go.Ab
open Go Go.Proofs
variable[kU]
end Go.Ab
