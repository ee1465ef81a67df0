import Derived.Test.YtbbhbdlljfffdaaGreatDoorAbCx
open Bool renaming and_true→AC,and_self→Do
set_option linter.all false
namespace Go.Ab
open Go Go.Proofs
variable[iW]
instance anp:c9 aj 2 (.int .i64):=⟨Tryz.underlying2⟩
instance anx:c9 aj 3 (.int .i64):=⟨Tryz.underlying3⟩
instance amY:cU aj 3 false 1:=⟨by kernel_rfl,by kernel_rfl⟩
instance aon:jO aj 3 [.val (.int .i64 0)]:=⟨by kernel_rfl⟩
instance aoz:ou aj 3 [.val (.int .i64 0)]:=⟨by kernel_rfl⟩
instance anB:c9 aj 5 (.int .u8):=⟨Tryz.underlying5⟩
instance am2:cU aj 5 false 1:=⟨by kernel_rfl,by kernel_rfl⟩
instance anE:c9 aj 9 .string:=⟨Tryz.underlying9⟩
instance anb:cU aj 9 false 1:=⟨by kernel_rfl,by kernel_rfl⟩
instance aot:jO aj 9 [.val (.string ⟨#[]⟩)]:=⟨by kernel_rfl⟩
instance anw:c9 aj 22 (.slice 36):=⟨Tryz.underlying22⟩
instance amV:cU aj 22 false 1:=⟨by kernel_rfl,by kernel_rfl⟩
instance amW:cU aj 24 true 1:=⟨by kernel_rfl,by kernel_rfl⟩
instance aol:jO aj 24 [.cw]:=⟨by kernel_rfl⟩
instance aox:ou aj 24 [.own [] 0]:=⟨by kernel_rfl⟩
instance akp:Fd aj 24 0 0 1 false:=⟨by kernel_rfl⟩
instance amm:Pl aj 24 [(0,1,false)]:=⟨by kernel_rfl⟩
instance amX:cU aj 26 true 2:=⟨by kernel_rfl,by kernel_rfl⟩
instance aom:jO aj 26 [.val (.int .i64 0), .val (.int .i64 0)]:=⟨by kernel_rfl⟩
instance aoy:ou aj 26 [.val (.int .i64 0), .val (.int .i64 0)]:=⟨by kernel_rfl⟩
instance akq:Fd aj 26 0 0 1 false:=⟨by kernel_rfl⟩
instance amn:Pl aj 26 [(0,1,false),(1,1,false)]:=⟨by kernel_rfl⟩
instance anz:c9 aj 34 (.slice 3):=⟨Tryz.underlying34⟩
instance amZ:cU aj 34 false 1:=⟨by kernel_rfl,by kernel_rfl⟩
instance aoA:ou aj 34 [.own [] 0]:=⟨by kernel_rfl⟩
instance am0:cU aj 36 true 6:=⟨by kernel_rfl,by kernel_rfl⟩
instance aoo:jO aj 36 [.val (.int .i64 0), .val (.string ⟨#[]⟩), .val (.int .i64 0), .val (.int .i64 0), .cw, .val (.int .i64 0)]:=⟨by kernel_rfl⟩
instance aoB:ou aj 36 [.val (.int .i64 0), .val (.string ⟨#[]⟩), .val (.int .i64 0), .val (.int .i64 0), .own [] 0, .val (.int .i64 0)]:=⟨by kernel_rfl⟩
instance akr:Fd aj 36 0 0 1 false:=⟨by kernel_rfl⟩
instance aks:Fd aj 36 1 1 1 false:=⟨by kernel_rfl⟩
instance akt:Fd aj 36 2 2 1 false:=⟨by kernel_rfl⟩
instance aku:Fd aj 36 3 3 1 false:=⟨by kernel_rfl⟩
instance akv:Fd aj 36 4 4 1 false:=⟨by kernel_rfl⟩
instance akw:Fd aj 36 5 5 1 false:=⟨by kernel_rfl⟩
instance amo:Pl aj 36 [(0,1,false),(1,1,false),(2,1,false),(3,1,false),(4,1,false),(5,1,false)]:=⟨by kernel_rfl⟩
instance anA:c9 aj 41 (.slice 9):=⟨Tryz.underlying41⟩
instance am1:cU aj 41 false 1:=⟨by kernel_rfl,by kernel_rfl⟩
instance am3:cU aj 59 false 1:=⟨by kernel_rfl,by kernel_rfl⟩
instance anC:c9 aj 62 (.slice 111):=⟨Tryz.underlying62⟩
instance am4:cU aj 62 false 1:=⟨by kernel_rfl,by kernel_rfl⟩
instance akx:Fd aj 70 0 0 1 false:=⟨by kernel_rfl⟩
instance am5:cU aj 72 true 3:=⟨by kernel_rfl,by kernel_rfl⟩
instance aop:jO aj 72 [.cw, .cw, .val (.int .i64 0)]:=⟨by kernel_rfl⟩
instance aky:Fd aj 72 0 0 1 true:=⟨by kernel_rfl⟩
instance akz:Fd aj 72 1 1 1 false:=⟨by kernel_rfl⟩
instance akA:Fd aj 72 2 2 1 false:=⟨by kernel_rfl⟩
instance amq:Pl aj 72 [(0,1,true),(1,1,false),(2,1,false)]:=⟨by kernel_rfl⟩
instance am6:cU aj 77 true 2:=⟨by kernel_rfl,by kernel_rfl⟩
instance aoq:jO aj 77 [.cw, .cw]:=⟨by kernel_rfl⟩
instance aoC:ou aj 77 [.own [] 0, .own [] 0]:=⟨by kernel_rfl⟩
instance akB:Fd aj 77 0 0 1 true:=⟨by kernel_rfl⟩
instance akC:Fd aj 77 1 1 1 false:=⟨by kernel_rfl⟩
instance amr:Pl aj 77 [(0,1,true),(1,1,false)]:=⟨by kernel_rfl⟩
instance am7:cU aj 81 false 1:=⟨by kernel_rfl,by kernel_rfl⟩
instance aoD:ou aj 81 [.val (.pointer none)]:=⟨by kernel_rfl⟩
instance alZ:Av aj 82 .string (uR 0):=⟨by kernel_rfl⟩
instance am8:cU aj 82 false 1:=⟨by kernel_rfl,by kernel_rfl⟩
instance aor:jO aj 82 [.val (.map none)]:=⟨by kernel_rfl⟩
instance anD:c9 aj 83 (.slice 82):=⟨Tryz.underlying83⟩
instance am9:cU aj 83 false 1:=⟨by kernel_rfl,by kernel_rfl⟩
instance ana:cU aj 85 true 3:=⟨by kernel_rfl,by kernel_rfl⟩
instance aos:jO aj 85 [.cw, .cw, .cw]:=⟨by kernel_rfl⟩
instance akD:Fd aj 85 0 0 1 true:=⟨by kernel_rfl⟩
instance akE:Fd aj 85 1 1 1 false:=⟨by kernel_rfl⟩
instance akF:Fd aj 85 2 2 1 false:=⟨by kernel_rfl⟩
instance ams:Pl aj 85 [(0,1,true),(1,1,false),(2,1,false)]:=⟨by kernel_rfl⟩
instance anc:cU aj 90 false 1:=⟨by kernel_rfl,by kernel_rfl⟩
instance aoE:ou aj 90 [.val (.pointer none)]:=⟨by kernel_rfl⟩
instance ane:cU aj 92 true 11:=⟨by kernel_rfl,by kernel_rfl⟩
instance aou:jO aj 92 [.cw, .cw, .cw, .val (.int .i64 0), .val (.string ⟨#[]⟩), .val (.int .i64 0), .val (.int .i64 0), .cw, .val (.int .i64 0), .val (.int .i64 0), .val (.int .i64 0)]:=⟨by kernel_rfl⟩
instance akG:Fd aj 92 0 0 1 true:=⟨by kernel_rfl⟩
instance akH:Fd aj 92 1 1 1 false:=⟨by kernel_rfl⟩
instance akI:Fd aj 92 2 2 1 false:=⟨by kernel_rfl⟩
instance akJ:Fd aj 92 3 3 6 true:=⟨by kernel_rfl⟩
instance akK:Fd aj 92 4 9 1 false:=⟨by kernel_rfl⟩
instance akL:Fd aj 92 5 10 1 false:=⟨by kernel_rfl⟩
instance amt:Pl aj 92 [(0,1,true),(1,1,false),(2,1,false),(3,6,true),(9,1,false),(10,1,false)]:=⟨by kernel_rfl⟩
instance anm:c9 aj 103 (.interface #[("Error",237)]):=⟨Tryz.underlying103⟩
instance amP:cU aj 103 false 1:=⟨by kernel_rfl,by kernel_rfl⟩
instance aoh:jO aj 106 [.val (.int .i64 0), .val (.int .i64 0)]:=⟨by kernel_rfl⟩
instance ami:Pl aj 106 [(0,2,true)]:=⟨by kernel_rfl⟩
instance amQ:cU aj 111 true 4:=⟨by kernel_rfl,by kernel_rfl⟩
instance aoi:jO aj 111 [.val (.int .i64 0), .val (.string ⟨#[]⟩), .val (.int .i64 0), .val (.int .i64 0)]:=⟨by kernel_rfl⟩
instance aov:ou aj 111 [.val (.int .i64 0), .val (.string ⟨#[]⟩), .val (.int .i64 0), .val (.int .i64 0)]:=⟨by kernel_rfl⟩
instance akk:Fd aj 111 0 0 1 false:=⟨by kernel_rfl⟩
instance akl:Fd aj 111 1 1 1 false:=⟨by kernel_rfl⟩
instance akm:Fd aj 111 2 2 1 false:=⟨by kernel_rfl⟩
instance akn:Fd aj 111 3 3 1 false:=⟨by kernel_rfl⟩
instance amj:Pl aj 111 [(0,1,false),(1,1,false),(2,1,false),(3,1,false)]:=⟨by kernel_rfl⟩
instance amR:cU aj 144 true 2:=⟨by kernel_rfl,by kernel_rfl⟩
instance aoj:jO aj 144 [.val (.int .i64 0), .val (.bool false)]:=⟨by kernel_rfl⟩
instance aow:ou aj 144 [.val (.int .i64 0), .val (.bool false)]:=⟨by kernel_rfl⟩
instance ako:Fd aj 144 0 0 1 false:=⟨by kernel_rfl⟩
instance amk:Pl aj 144 [(0,1,false),(1,1,false)]:=⟨by kernel_rfl⟩
instance ann:c9 aj 161 (.array 10 41):=⟨Tryz.underlying161⟩
instance ano:c9 aj 196 (.array 13 9):=⟨Tryz.underlying196⟩
instance amS:cU aj 196 true 13:=⟨by kernel_rfl,by kernel_rfl⟩
instance anq:c9 aj 201 (.array 43 9):=⟨Tryz.underlying201⟩
instance amT:cU aj 201 true 43:=⟨by kernel_rfl,by kernel_rfl⟩
instance anr:c9 aj 203 (.int .u64):=⟨Tryz.underlying203⟩
instance ans:c9 aj 208 (.int .i64):=⟨Tryz.underlying208⟩
instance aj1:DD aj 208:=⟨by kernel_rfl⟩
instance ant:c9 aj 209 (.int .u64):=⟨Tryz.underlying209⟩
instance anu:c9 aj 212 (.pointer 218):=⟨Tryz.underlying212⟩
instance anv:c9 aj 216 (.slice 5):=⟨Tryz.underlying216⟩
instance amU:cU aj 218 true 3:=⟨by kernel_rfl,by kernel_rfl⟩
instance aok:jO aj 218 [.val (.string ⟨#[]⟩), .val (.string ⟨#[]⟩), .val .nilIface]:=⟨by kernel_rfl⟩
instance aml:Pl aj 218 [(0,1,false),(1,1,false),(2,1,false)]:=⟨by kernel_rfl⟩
instance ajH:qt aj 3 1:=⟨by kernel_rfl⟩
instance ajI:qt aj 36 6:=⟨by kernel_rfl⟩
instance ajJ:qt aj 82 1:=⟨by kernel_rfl⟩
instance ajG:qt aj 111 4:=⟨by kernel_rfl⟩
structure aQ where
 Kind:Int
 Text:ByteArray
 N:Int
 gj:Int
 Kids:(List Int)
 cr:Int
 deriving DecidableEq,Inhabited
structure b6 where aK:(List aQ)deriving DecidableEq,Inhabited
structure aY where
 Code:Int
 cr:Int
 deriving DecidableEq,Inhabited
structure bL where
 Kind:Int
 Text:ByteArray
 N:Int
 cr:Int
 deriving DecidableEq,Inhabited
structure rR where
 Func:ByteArray
 T4:ByteArray
 TV:dj
 deriving DecidableEq,Inhabited
structure ax where
 bN:b6
 l:(List bL)
 end_:Int
 deriving DecidableEq,Inhabited
structure ajC where ajv:aY deriving DecidableEq,Inhabited
structure ja where
 t:b6
 first:(List Int)
 deriving DecidableEq,Inhabited
structure jN where
 Op:Int
 WZ:Bool
 deriving DecidableEq,Inhabited
structure aB where
 t:b6
 out:(List Int)
 room:((List (List (ByteArray×Int)))×Nat)
 deriving DecidableEq,Inhabited
structure cC where
 t:b6
 names:(List Int)
 b9:(List Int)
 fn:aQ
 loops:Int
 leave:Int
 deriving DecidableEq,Inhabited
structure ajB where
 Name:ByteArray
 gj:Int
 Init:(List Int)
 deriving DecidableEq,Inhabited
def bf(x:Int):List U:=[(I x)]
instance:iA bf:=⟨fun x=>rfl⟩
instance:o9 bf:=⟨fun x=>rfl,fun x=>rfl⟩
instance:DJ bf bf:=⟨fun x=>rfl⟩
instance:My bf:=⟨fun x=>rfl⟩
def cj(x:aQ):List U:=[(I x.Kind),(U.val (.string x.Text)),(I x.N),(I x.gj),(.sl ((x.Kids).map bf)),(I x.cr)]
instance:iA cj:=⟨fun x=>rfl⟩
instance:o9 cj:=⟨fun x=>rfl,fun x=>rfl⟩
instance:DJ cj cj:=⟨fun x=>rfl⟩
def fC(x:b6):List U:=[(.sl ((x.aK).map cj))]
def eT(x:aY):List U:=[(I x.Code),(I x.cr)]
def Ee(x:Int):List U:=[(U.val (.int .u8 x))]
def Ef(x:rR):List U:=[(U.val (.string x.Func)),(U.val (.string x.T4)),(gu 208 x.TV)]
def dD(x:bL):List U:=[(I x.Kind),(U.val (.string x.Text)),(I x.N),(I x.cr)]
instance:iA dD:=⟨fun x=>rfl⟩
instance:o9 dD:=⟨fun x=>rfl,fun x=>rfl⟩
instance:DJ dD dD:=⟨fun x=>rfl⟩
def bV(x:ax):List U:=[(.own ((x.bN.aK).map cj) (x.bN.aK).length),(.sl ((x.l).map dD)),(I x.end_)]
def x9(x:ByteArray):List U:=[(U.val (.string x))]
def qG(x:b6):List U:=[(.own ((x.aK).map cj) (x.aK).length)]
instance:iA qG:=⟨fun x=>by simp only[qG,Ex,Ey,ED,EF,EE,EC,EB,AC,Do,nG]⟩
def vz(x:ja):List U:=[(.sl ((x.t.aK).map cj)),(.own ((x.first).map bf) (x.first).length)]
def X4(x:jN):List U:=[(I x.Op),(B x.WZ)]
def HK(x:(List (ByteArray×Int))):List U:=[(.im ((x).map (nU xD uR)))]
def AT(x:(List (ByteArray×Int))):List U:=[(.ey ((x).map (nU xD uR)))]
instance:iA AT:=⟨fun x=>by simp only[AT,Ex,Ey,ED,EF,EE,EC,EB,AC,Do,nG]⟩
instance:xG AT HK:=⟨fun L n x=>by simp only[AT,HK];exact XW,fun x=>rfl⟩
def HB(x:aB):List U:=[(.sl ((x.t.aK).map cj)),(.sl ((x.out).map bf)),(.sl (((List.take x.room.2 x.room.1)).map HK))]
def dU(x:aB):List U:=[(.sl ((x.t.aK).map cj)),(.own ((x.out).map bf) (x.out).length),(.own ((x.room).1.map AT) (x.room).2)]
instance:iA dU:=⟨fun x=>by simp only[dU,Ex,Ey,ED,EF,EE,EC,EB,AC,Do,nG]⟩
def kU(x:cC):List U:=[(.sl ((x.t.aK).map cj)),(.sl ((x.names).map bf)),(.sl ((x.b9).map bf)),(I x.fn.Kind),(U.val (.string x.fn.Text)),(I x.fn.N),(I x.fn.gj),(.sl ((x.fn.Kids).map bf)),(I x.fn.cr),(I x.loops),(I x.leave)]
def nB(x:cC):List U:=[(.sl ((x.t.aK).map cj)),(.sl ((x.names).map bf)),(.own ((x.b9).map bf) (x.b9).length),(I x.fn.Kind),(U.val (.string x.fn.Text)),(I x.fn.N),(I x.fn.gj),(.sl ((x.fn.Kids).map bf)),(I x.fn.cr),(I x.loops),(I x.leave)]
instance:iA nB:=⟨fun x=>by simp only[nB,Ex,Ey,ED,EF,EE,EC,EB,AC,Do,nG]⟩
theorem tB(x y:Operand){rq q0:Int}{p1 q1:Int}:eS aj.P .neq 26 x y (.agg ⟨[.int .i64 rq, .int .i64 p1]⟩) (.agg ⟨[.int .i64 q0, .int .i64 q1]⟩)=some (.bool (!((rq==q0)&&((p1==q1)&&true)))):=Xz (P:=Tryz.prog) Tryz.underlying26 Tryz.stoodInHeld26 Tryz.eqGuardType26 (by simp[yo,Tryz.underlying3,fits,Gi])
end Go.Ab
