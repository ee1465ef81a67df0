import Derived.Test.YtbbhbdlljfffdaaGreatDoorAbCx
set_option linter.all false
namespace Go.Ab
open Go Go.Proofs
variable[kV]
instance amW:de ak 2 (.int .i64):=⟨Tryz.underlying2⟩
instance am4:de ak 3 (.int .i64):=⟨Tryz.underlying3⟩
instance amA:cX ak 3 false 1:=⟨by kernel_rfl,by kernel_rfl⟩
instance anS:kY ak 3 [.val (.int .i64 0)]:=⟨by kernel_rfl⟩
instance an1:uv ak 3 [.val (.int .i64 0)]:=⟨by kernel_rfl⟩
instance am7:de ak 5 (.int .u8):=⟨Tryz.underlying5⟩
instance amE:cX ak 5 false 1:=⟨by kernel_rfl,by kernel_rfl⟩
instance am9:de ak 9 .string:=⟨Tryz.underlying9⟩
instance amI:cX ak 9 false 1:=⟨by kernel_rfl,by kernel_rfl⟩
instance anX:kY ak 9 [.val (.string ⟨#[]⟩)]:=⟨by kernel_rfl⟩
instance am3:de ak 22 (.slice 36):=⟨Tryz.underlying22⟩
instance amx:cX ak 22 false 1:=⟨by kernel_rfl,by kernel_rfl⟩
instance amy:cX ak 24 true 1:=⟨by kernel_rfl,by kernel_rfl⟩
instance anQ:kY ak 24 [.bW]:=⟨by kernel_rfl⟩
instance anZ:uv ak 24 [.own [] 0]:=⟨by kernel_rfl⟩
instance ajR:Fd ak 24 0 0 1 false:=⟨by kernel_rfl⟩
instance alS:Pl ak 24 [(0,1,false)]:=⟨by kernel_rfl⟩
instance amz:cX ak 26 true 2:=⟨by kernel_rfl,by kernel_rfl⟩
instance anR:kY ak 26 [.val (.int .i64 0), .val (.int .i64 0)]:=⟨by kernel_rfl⟩
instance an0:uv ak 26 [.val (.int .i64 0), .val (.int .i64 0)]:=⟨by kernel_rfl⟩
instance ajS:Fd ak 26 0 0 1 false:=⟨by kernel_rfl⟩
instance alT:Pl ak 26 [(0,1,false),(1,1,false)]:=⟨by kernel_rfl⟩
instance am5:de ak 34 (.slice 3):=⟨Tryz.underlying34⟩
instance amB:cX ak 34 false 1:=⟨by kernel_rfl,by kernel_rfl⟩
instance amC:cX ak 36 true 6:=⟨by kernel_rfl,by kernel_rfl⟩
instance anT:kY ak 36 [.val (.int .i64 0), .val (.string ⟨#[]⟩), .val (.int .i64 0), .val (.int .i64 0), .bW, .val (.int .i64 0)]:=⟨by kernel_rfl⟩
instance an2:uv ak 36 [.val (.int .i64 0), .val (.string ⟨#[]⟩), .val (.int .i64 0), .val (.int .i64 0), .own [] 0, .val (.int .i64 0)]:=⟨by kernel_rfl⟩
instance ajT:Fd ak 36 0 0 1 false:=⟨by kernel_rfl⟩
instance ajU:Fd ak 36 1 1 1 false:=⟨by kernel_rfl⟩
instance ajV:Fd ak 36 2 2 1 false:=⟨by kernel_rfl⟩
instance ajW:Fd ak 36 3 3 1 false:=⟨by kernel_rfl⟩
instance ajX:Fd ak 36 4 4 1 false:=⟨by kernel_rfl⟩
instance ajY:Fd ak 36 5 5 1 false:=⟨by kernel_rfl⟩
instance alU:Pl ak 36 [(0,1,false),(1,1,false),(2,1,false),(3,1,false),(4,1,false),(5,1,false)]:=⟨by kernel_rfl⟩
instance am6:de ak 41 (.slice 9):=⟨Tryz.underlying41⟩
instance amD:cX ak 41 false 1:=⟨by kernel_rfl,by kernel_rfl⟩
instance anU:kY ak 41 [.bW]:=⟨by kernel_rfl⟩
instance am8:de ak 62 (.slice 111):=⟨Tryz.underlying62⟩
instance amF:cX ak 62 false 1:=⟨by kernel_rfl,by kernel_rfl⟩
instance amG:cX ak 66 true 6:=⟨by kernel_rfl,by kernel_rfl⟩
instance anV:kY ak 66 [.bW, .bW, .val (.int .i64 0), .val (.int .i64 0), .val (.int .i64 0), .val (.int .i64 0)]:=⟨by kernel_rfl⟩
instance an3:uv ak 66 [.own [] 0, .own [] 0, .val (.int .i64 0), .val (.int .i64 0), .val (.int .i64 0), .val (.int .i64 0)]:=⟨by kernel_rfl⟩
instance ajZ:Fd ak 66 0 0 1 false:=⟨by kernel_rfl⟩
instance aj0:Fd ak 66 1 1 1 false:=⟨by kernel_rfl⟩
instance aj1:Fd ak 66 2 2 1 false:=⟨by kernel_rfl⟩
instance aj2:Fd ak 66 3 3 2 true:=⟨by kernel_rfl⟩
instance aj3:Fd ak 66 4 5 1 false:=⟨by kernel_rfl⟩
instance alV:Pl ak 66 [(0,1,false),(1,1,false),(2,1,false),(3,2,true),(5,1,false)]:=⟨by kernel_rfl⟩
instance aj4:Fd ak 70 0 0 1 false:=⟨by kernel_rfl⟩
instance amH:cX ak 72 true 3:=⟨by kernel_rfl,by kernel_rfl⟩
instance anW:kY ak 72 [.bW, .bW, .val (.int .i64 0)]:=⟨by kernel_rfl⟩
instance aj5:Fd ak 72 0 0 1 true:=⟨by kernel_rfl⟩
instance aj6:Fd ak 72 1 1 1 false:=⟨by kernel_rfl⟩
instance aj7:Fd ak 72 2 2 1 false:=⟨by kernel_rfl⟩
instance alW:Pl ak 72 [(0,1,true),(1,1,false),(2,1,false)]:=⟨by kernel_rfl⟩
instance amS:de ak 103 (.interface #[("Error",237)]):=⟨Tryz.underlying103⟩
instance ams:cX ak 103 false 1:=⟨by kernel_rfl,by kernel_rfl⟩
instance anN:kY ak 106 [.val (.int .i64 0), .val (.int .i64 0)]:=⟨by kernel_rfl⟩
instance alP:Pl ak 106 [(0,2,true)]:=⟨by kernel_rfl⟩
instance amt:cX ak 111 true 4:=⟨by kernel_rfl,by kernel_rfl⟩
instance anO:kY ak 111 [.val (.int .i64 0), .val (.string ⟨#[]⟩), .val (.int .i64 0), .val (.int .i64 0)]:=⟨by kernel_rfl⟩
instance anY:uv ak 111 [.val (.int .i64 0), .val (.string ⟨#[]⟩), .val (.int .i64 0), .val (.int .i64 0)]:=⟨by kernel_rfl⟩
instance ajN:Fd ak 111 0 0 1 false:=⟨by kernel_rfl⟩
instance ajO:Fd ak 111 1 1 1 false:=⟨by kernel_rfl⟩
instance ajP:Fd ak 111 2 2 1 false:=⟨by kernel_rfl⟩
instance ajQ:Fd ak 111 3 3 1 false:=⟨by kernel_rfl⟩
instance alQ:Pl ak 111 [(0,1,false),(1,1,false),(2,1,false),(3,1,false)]:=⟨by kernel_rfl⟩
instance amT:de ak 161 (.array 10 41):=⟨Tryz.underlying161⟩
instance amU:de ak 192 (.slice 41):=⟨Tryz.underlying192⟩
instance amV:de ak 196 (.array 13 9):=⟨Tryz.underlying196⟩
instance amu:cX ak 196 true 13:=⟨by kernel_rfl,by kernel_rfl⟩
instance amX:de ak 201 (.array 43 9):=⟨Tryz.underlying201⟩
instance amv:cX ak 201 true 43:=⟨by kernel_rfl,by kernel_rfl⟩
instance amY:de ak 203 (.int .u64):=⟨Tryz.underlying203⟩
instance amZ:de ak 208 (.int .i64):=⟨Tryz.underlying208⟩
instance ajj:Eb ak 208:=⟨by kernel_rfl⟩
instance am0:de ak 209 (.int .u64):=⟨Tryz.underlying209⟩
instance am1:de ak 212 (.pointer 218):=⟨Tryz.underlying212⟩
instance am2:de ak 216 (.slice 5):=⟨Tryz.underlying216⟩
instance amw:cX ak 218 true 3:=⟨by kernel_rfl,by kernel_rfl⟩
instance anP:kY ak 218 [.val (.string ⟨#[]⟩), .val (.string ⟨#[]⟩), .val .nilIface]:=⟨by kernel_rfl⟩
instance alR:Pl ak 218 [(0,1,false),(1,1,false),(2,1,false)]:=⟨by kernel_rfl⟩
instance aiQ:sg ak 3 1:=⟨by kernel_rfl⟩
instance aiR:sg ak 36 6:=⟨by kernel_rfl⟩
instance aiP:sg ak 111 4:=⟨by kernel_rfl⟩
instance alo:GZ ak 106:=⟨by kernel_rfl⟩
structure bH where
 Kind:Int
 Text:ByteArray
 N:Int
 uq:Int
 Kids:(List Int)
 cq:Int
 deriving DecidableEq,Inhabited
structure c9 where cw:(List bH)deriving DecidableEq,Inhabited
structure cF where
 Code:Int
 cq:Int
 deriving DecidableEq,Inhabited
structure bx where
 Kind:Int
 Text:ByteArray
 N:Int
 cq:Int
 deriving DecidableEq,Inhabited
structure sB where
 Func:ByteArray
 Ta:ByteArray
 S1:bQ
 deriving DecidableEq,Inhabited
structure aE where
 fy:c9
 l:(List bx)
 end_:Int
 deriving DecidableEq,Inhabited
structure MB where LM:cF deriving DecidableEq,Inhabited
structure ai where
 cw:(List bH)
 Left:(List bx)
 End:Int
 cy:cF
 fX:Int
 deriving DecidableEq,Inhabited
def iE(x:cF):List U:=[(I x.Code),(I x.cq)]
def EI(x:Int):List U:=[(U.val (.int .u8 x))]
def EJ(x:sB):List U:=[(U.val (.string x.Func)),(U.val (.string x.Ta)),(gp 208 x.S1)]
def dh(x:bx):List U:=[(I x.Kind),(U.val (.string x.Text)),(I x.N),(I x.cq)]
instance:pW dh:=⟨fun x=>rfl⟩
instance:ud dh:=⟨fun x=>rfl,fun x=>rfl⟩
instance:Eg dh dh:=⟨fun x=>rfl⟩
def fz(x:Int):List U:=[(I x)]
instance:pW fz:=⟨fun x=>rfl⟩
instance:ud fz:=⟨fun x=>rfl,fun x=>rfl⟩
instance:Eg fz fz:=⟨fun x=>rfl⟩
def fP(x:bH):List U:=[(I x.Kind),(U.val (.string x.Text)),(I x.N),(I x.uq),(.sl ((x.Kids).map fz)),(I x.cq)]
instance:pW fP:=⟨fun x=>rfl⟩
instance:ud fP:=⟨fun x=>rfl,fun x=>rfl⟩
instance:Eg fP fP:=⟨fun x=>rfl⟩
def cM(x:aE):List U:=[(.own ((x.fy.cw).map fP) (x.fy.cw).length),(.sl ((x.l).map dh)),(I x.end_)]
def yZ(x:ByteArray):List U:=[(U.val (.string x))]
def oT(x:c9):List U:=[(.sl ((x.cw).map fP))]
def uA(x:c9):List U:=[(.own ((x.cw).map fP) (x.cw).length)]
instance:pW uA:=⟨fun x=>by simp only[uA,YK,YL,YP,YR,YQ,YO,YN,Bool.and_true,Bool.and_self,wo]⟩
def bR(x:ai):List U:=[(.sl ((x.cw).map fP)),(.sl ((x.Left).map dh)),(I x.End),(I x.cy.Code),(I x.cy.cq),(I x.fX)]
def lT(x:ai):List U:=[(.own ((x.cw).map fP) (x.cw).length),(.own ((x.Left).map dh) (x.Left).length),(I x.End),(I x.cy.Code),(I x.cy.cq),(I x.fX)]
def No(x:(List ByteArray)):List U:=[(.sl ((x).map yZ))]
abbrev lu(x:MB):Value:= .iface 106 (.agg ⟨[.int .i64 x.LM.Code, .int .i64 x.LM.cq]⟩)
theorem X6(x y:Operand){kn q0:Int}{p1 q1:Int}:er ak.P .eql 26 x y (.agg ⟨[.int .i64 kn, .int .i64 p1]⟩) (.agg ⟨[.int .i64 q0, .int .i64 q1]⟩)=some (.bool ((kn==q0)&&((p1==q1)&&true))):=Wi (P:=Tryz.prog) Tryz.underlying26 Tryz.stoodInHeld26 Tryz.eqGuardType26 (by simp[uC,Tryz.underlying3,fits,DE])
theorem X7(x y:Operand){kn q0:Int}{p1 q1:Int}:er ak.P .neq 26 x y (.agg ⟨[.int .i64 kn, .int .i64 p1]⟩) (.agg ⟨[.int .i64 q0, .int .i64 q1]⟩)=some (.bool (!((kn==q0)&&((p1==q1)&&true)))):=Wq (P:=Tryz.prog) Tryz.underlying26 Tryz.stoodInHeld26 Tryz.eqGuardType26 (by simp[uC,Tryz.underlying3,fits,DE])
end Go.Ab
namespace Go.Ab
open Go Go.Proofs
variable[kV]
end Go.Ab
