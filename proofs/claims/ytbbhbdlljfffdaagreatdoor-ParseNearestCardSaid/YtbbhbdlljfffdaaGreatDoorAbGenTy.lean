import Derived.Test.YtbbhbdlljfffdaaGreatDoorAbCx
set_option linter.all false
namespace Go.Ab
open Go Go.Proofs
variable[jv]
instance acS:cQ ak 2 (.int .i64):=⟨Tryz.underlying2⟩
instance ac0:cQ ak 3 (.int .i64):=⟨Tryz.underlying3⟩
instance acy:cK ak 3 false 1:=⟨by kernel_rfl,by kernel_rfl⟩
instance adS:iU ak 3 [.val (.int .i64 0)]:=⟨by kernel_rfl⟩
instance ad1:om ak 3 [.val (.int .i64 0)]:=⟨by kernel_rfl⟩
instance ac3:cQ ak 5 (.int .u8):=⟨Tryz.underlying5⟩
instance acC:cK ak 5 false 1:=⟨by kernel_rfl,by kernel_rfl⟩
instance ac5:cQ ak 9 .string:=⟨Tryz.underlying9⟩
instance acH:cK ak 9 false 1:=⟨by kernel_rfl,by kernel_rfl⟩
instance adW:iU ak 9 [.val (.string ⟨#[]⟩)]:=⟨by kernel_rfl⟩
instance acZ:cQ ak 22 (.slice 36):=⟨Tryz.underlying22⟩
instance acu:cK ak 22 false 1:=⟨by kernel_rfl,by kernel_rfl⟩
instance acv:cK ak 24 true 1:=⟨by kernel_rfl,by kernel_rfl⟩
instance adQ:iU ak 24 [.bQ]:=⟨by kernel_rfl⟩
instance adZ:om ak 24 [.own [] 0]:=⟨by kernel_rfl⟩
instance Z7:Fd ak 24 0 0 1 false:=⟨by kernel_rfl⟩
instance abQ:Pl ak 24 [(0,1,false)]:=⟨by kernel_rfl⟩
instance acw:cK ak 26 true 2:=⟨by kernel_rfl,by kernel_rfl⟩
instance adR:iU ak 26 [.val (.int .i64 0), .val (.int .i64 0)]:=⟨by kernel_rfl⟩
instance ad0:om ak 26 [.val (.int .i64 0), .val (.int .i64 0)]:=⟨by kernel_rfl⟩
instance Z8:Fd ak 26 0 0 1 false:=⟨by kernel_rfl⟩
instance abR:Pl ak 26 [(0,1,false),(1,1,false)]:=⟨by kernel_rfl⟩
instance ac1:cQ ak 34 (.slice 3):=⟨Tryz.underlying34⟩
instance acz:cK ak 34 false 1:=⟨by kernel_rfl,by kernel_rfl⟩
instance acA:cK ak 36 true 6:=⟨by kernel_rfl,by kernel_rfl⟩
instance adT:iU ak 36 [.val (.int .i64 0), .val (.string ⟨#[]⟩), .val (.int .i64 0), .val (.int .i64 0), .bQ, .val (.int .i64 0)]:=⟨by kernel_rfl⟩
instance ad2:om ak 36 [.val (.int .i64 0), .val (.string ⟨#[]⟩), .val (.int .i64 0), .val (.int .i64 0), .own [] 0, .val (.int .i64 0)]:=⟨by kernel_rfl⟩
instance Z9:Fd ak 36 0 0 1 false:=⟨by kernel_rfl⟩
instance aaa:Fd ak 36 1 1 1 false:=⟨by kernel_rfl⟩
instance aab:Fd ak 36 2 2 1 false:=⟨by kernel_rfl⟩
instance aac:Fd ak 36 3 3 1 false:=⟨by kernel_rfl⟩
instance aad:Fd ak 36 4 4 1 false:=⟨by kernel_rfl⟩
instance aae:Fd ak 36 5 5 1 false:=⟨by kernel_rfl⟩
instance abS:Pl ak 36 [(0,1,false),(1,1,false),(2,1,false),(3,1,false),(4,1,false),(5,1,false)]:=⟨by kernel_rfl⟩
instance ac2:cQ ak 41 (.slice 9):=⟨Tryz.underlying41⟩
instance acB:cK ak 41 false 1:=⟨by kernel_rfl,by kernel_rfl⟩
instance acD:cK ak 59 false 1:=⟨by kernel_rfl,by kernel_rfl⟩
instance ac4:cQ ak 62 (.slice 111):=⟨Tryz.underlying62⟩
instance acE:cK ak 62 false 1:=⟨by kernel_rfl,by kernel_rfl⟩
instance aaf:Fd ak 70 0 0 1 false:=⟨by kernel_rfl⟩
instance acF:cK ak 72 true 3:=⟨by kernel_rfl,by kernel_rfl⟩
instance adU:iU ak 72 [.bQ, .bQ, .val (.int .i64 0)]:=⟨by kernel_rfl⟩
instance aag:Fd ak 72 0 0 1 true:=⟨by kernel_rfl⟩
instance aah:Fd ak 72 1 1 1 false:=⟨by kernel_rfl⟩
instance aai:Fd ak 72 2 2 1 false:=⟨by kernel_rfl⟩
instance abT:Pl ak 72 [(0,1,true),(1,1,false),(2,1,false)]:=⟨by kernel_rfl⟩
instance acG:cK ak 77 true 2:=⟨by kernel_rfl,by kernel_rfl⟩
instance adV:iU ak 77 [.bQ, .bQ]:=⟨by kernel_rfl⟩
instance ad3:om ak 77 [.own [] 0, .own [] 0]:=⟨by kernel_rfl⟩
instance aaj:Fd ak 77 0 0 1 true:=⟨by kernel_rfl⟩
instance aak:Fd ak 77 1 1 1 false:=⟨by kernel_rfl⟩
instance abU:Pl ak 77 [(0,1,true),(1,1,false)]:=⟨by kernel_rfl⟩
instance acP:cQ ak 103 (.interface #[("Error",237)]):=⟨Tryz.underlying103⟩
instance acn:cK ak 103 false 1:=⟨by kernel_rfl,by kernel_rfl⟩
instance adM:iU ak 106 [.val (.int .i64 0), .val (.int .i64 0)]:=⟨by kernel_rfl⟩
instance abM:Pl ak 106 [(0,2,true)]:=⟨by kernel_rfl⟩
instance aco:cK ak 111 true 4:=⟨by kernel_rfl,by kernel_rfl⟩
instance adN:iU ak 111 [.val (.int .i64 0), .val (.string ⟨#[]⟩), .val (.int .i64 0), .val (.int .i64 0)]:=⟨by kernel_rfl⟩
instance adX:om ak 111 [.val (.int .i64 0), .val (.string ⟨#[]⟩), .val (.int .i64 0), .val (.int .i64 0)]:=⟨by kernel_rfl⟩
instance Z2:Fd ak 111 0 0 1 false:=⟨by kernel_rfl⟩
instance Z3:Fd ak 111 1 1 1 false:=⟨by kernel_rfl⟩
instance Z4:Fd ak 111 2 2 1 false:=⟨by kernel_rfl⟩
instance Z5:Fd ak 111 3 3 1 false:=⟨by kernel_rfl⟩
instance abN:Pl ak 111 [(0,1,false),(1,1,false),(2,1,false),(3,1,false)]:=⟨by kernel_rfl⟩
instance acp:cK ak 144 true 2:=⟨by kernel_rfl,by kernel_rfl⟩
instance adO:iU ak 144 [.val (.int .i64 0), .val (.bool false)]:=⟨by kernel_rfl⟩
instance adY:om ak 144 [.val (.int .i64 0), .val (.bool false)]:=⟨by kernel_rfl⟩
instance Z6:Fd ak 144 0 0 1 false:=⟨by kernel_rfl⟩
instance abO:Pl ak 144 [(0,1,false),(1,1,false)]:=⟨by kernel_rfl⟩
instance acQ:cQ ak 161 (.array 10 41):=⟨Tryz.underlying161⟩
instance acR:cQ ak 196 (.array 13 9):=⟨Tryz.underlying196⟩
instance acq:cK ak 196 true 13:=⟨by kernel_rfl,by kernel_rfl⟩
instance acT:cQ ak 201 (.array 43 9):=⟨Tryz.underlying201⟩
instance acr:cK ak 201 true 43:=⟨by kernel_rfl,by kernel_rfl⟩
instance acU:cQ ak 203 (.int .u64):=⟨Tryz.underlying203⟩
instance acV:cQ ak 208 (.int .i64):=⟨Tryz.underlying208⟩
instance ZF:x9 ak 208:=⟨by kernel_rfl⟩
instance acW:cQ ak 209 (.int .u64):=⟨Tryz.underlying209⟩
instance acX:cQ ak 212 (.pointer 218):=⟨Tryz.underlying212⟩
instance acY:cQ ak 216 (.slice 5):=⟨Tryz.underlying216⟩
instance acs:cK ak 218 true 3:=⟨by kernel_rfl,by kernel_rfl⟩
instance adP:iU ak 218 [.val (.string ⟨#[]⟩), .val (.string ⟨#[]⟩), .val .nilIface]:=⟨by kernel_rfl⟩
instance abP:Pl ak 218 [(0,1,false),(1,1,false),(2,1,false)]:=⟨by kernel_rfl⟩
instance Ze:pq ak 3 1:=⟨by kernel_rfl⟩
instance Zf:pq ak 36 6:=⟨by kernel_rfl⟩
instance Zd:pq ak 111 4:=⟨by kernel_rfl⟩
structure aX where
 Kind:Int
 Text:ByteArray
 N:Int
 kV:Int
 Kids:(List Int)
 cw:Int
 deriving DecidableEq,Inhabited
structure b9 where aK:(List aX)deriving DecidableEq,Inhabited
structure eA where
 Code:Int
 cw:Int
 deriving DecidableEq,Inhabited
structure bh where
 Kind:Int
 Text:ByteArray
 N:Int
 cw:Int
 deriving DecidableEq,Inhabited
structure og where
 Func:ByteArray
 LM:ByteArray
 LJ:cI
 deriving DecidableEq,Inhabited
structure aq where
 bk:b9
 l:(List bh)
 end_:Int
 deriving DecidableEq,Inhabited
structure gF where
 t:b9
 first:(List Int)
 deriving DecidableEq,Inhabited
structure gW where
 Op:Int
 Oe:Bool
 deriving DecidableEq,Inhabited
def jy(x:eA):List U:=[(I x.Code),(I x.cw)]
def yK(x:Int):List U:=[(U.val (.int .u8 x))]
def yL(x:og):List U:=[(U.val (.string x.Func)),(U.val (.string x.LM)),(fh 208 x.LJ)]
def cR(x:bh):List U:=[(I x.Kind),(U.val (.string x.Text)),(I x.N),(I x.cw)]
instance:lN cR:=⟨fun x=>rfl⟩
instance:pF cR:=⟨fun x=>rfl,fun x=>rfl⟩
instance:ye cR cR:=⟨fun x=>rfl⟩
def cl(x:Int):List U:=[(I x)]
instance:lN cl:=⟨fun x=>rfl⟩
instance:pF cl:=⟨fun x=>rfl,fun x=>rfl⟩
instance:ye cl cl:=⟨fun x=>rfl⟩
def cc(x:aX):List U:=[(I x.Kind),(U.val (.string x.Text)),(I x.N),(I x.kV),(.sl ((x.Kids).map cl)),(I x.cw)]
instance:lN cc:=⟨fun x=>rfl⟩
instance:pF cc:=⟨fun x=>rfl,fun x=>rfl⟩
instance:ye cc cc:=⟨fun x=>rfl⟩
def bl(x:aq):List U:=[(.own ((x.bk.aK).map cc) (x.bk.aK).length),(.sl ((x.l).map cR)),(I x.end_)]
def kZ(x:ByteArray):List U:=[(U.val (.string x))]
def q2(x:b9):List U:=[(.sl ((x.aK).map cc))]
def mF(x:b9):List U:=[(.own ((x.aK).map cc) (x.aK).length)]
instance:lN mF:=⟨fun x=>by simp only[mF,QW,QX,Q1,Q3,Q2,Q0,QZ,Bool.and_true,Bool.and_self,pW]⟩
def q3(x:gF):List U:=[(.sl ((x.t.aK).map cc)),(.own ((x.first).map cl) (x.first).length)]
def Pa(x:gW):List U:=[(I x.Op),(B x.Oe)]
theorem yV(x y:Operand){qw q0:Int}{p1 q1:Int}:dM ak.P .neq 26 x y (.agg ⟨[.int .i64 qw, .int .i64 p1]⟩) (.agg ⟨[.int .i64 q0, .int .i64 q1]⟩)=some (.bool (!((qw==q0)&&((p1==q1)&&true)))):=OM (P:=Tryz.prog) Tryz.underlying26 Tryz.stoodInHeld26 Tryz.eqGuardType26 (by simp[tc,Tryz.underlying3,fits,Ar])
end Go.Ab
