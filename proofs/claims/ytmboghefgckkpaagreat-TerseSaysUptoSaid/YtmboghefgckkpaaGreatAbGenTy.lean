import Derived.Test.YtmboghefgckkpaaGreatAbCx
namespace Go.Ab
open Go Go.Proofs
instance asO:ff az 3 (.int .i64):=⟨Tryz.underlying3⟩
instance asb:dO az 3 false 1:=⟨by kernel_rfl,by kernel_rfl⟩
instance atC:lK az 3 [.val (.int .i64 0)]:=⟨by kernel_rfl⟩
instance atN:lM az 3 [.val (.int .i64 0)]:=⟨by kernel_rfl⟩
instance asf:dO az 4 false 1:=⟨by kernel_rfl,by kernel_rfl⟩
instance atQ:lM az 4 [.val (.bool false)]:=⟨by kernel_rfl⟩
instance asS:ff az 9 .string:=⟨Tryz.underlying9⟩
instance asn:dO az 9 false 1:=⟨by kernel_rfl,by kernel_rfl⟩
instance atH:lK az 9 [.val (.string ⟨#[]⟩)]:=⟨by kernel_rfl⟩
instance asN:ff az 22 (.slice 34):=⟨Tryz.underlying22⟩
instance ar8:dO az 22 false 1:=⟨by kernel_rfl,by kernel_rfl⟩
instance ar9:dO az 24 true 1:=⟨by kernel_rfl,by kernel_rfl⟩
instance atA:lK az 24 [.cE]:=⟨by kernel_rfl⟩
instance atL:lM az 24 [.own [] 0]:=⟨by kernel_rfl⟩
instance apb:Fd az 24 0 0 1 false:=⟨by kernel_rfl⟩
instance arE:Pl az 24 [(0,1,false)]:=⟨by kernel_rfl⟩
instance asa:dO az 26 true 2:=⟨by kernel_rfl,by kernel_rfl⟩
instance atB:lK az 26 [.val (.int .i64 0), .val (.int .i64 0)]:=⟨by kernel_rfl⟩
instance atM:lM az 26 [.val (.int .i64 0), .val (.int .i64 0)]:=⟨by kernel_rfl⟩
instance apc:Fd az 26 0 0 1 false:=⟨by kernel_rfl⟩
instance arF:Pl az 26 [(0,1,false),(1,1,false)]:=⟨by kernel_rfl⟩
instance asP:ff az 32 (.slice 3):=⟨Tryz.underlying32⟩
instance asc:dO az 32 false 1:=⟨by kernel_rfl,by kernel_rfl⟩
instance atO:lM az 32 [.own [] 0]:=⟨by kernel_rfl⟩
instance asd:dO az 34 true 6:=⟨by kernel_rfl,by kernel_rfl⟩
instance atD:lK az 34 [.val (.int .i64 0), .val (.string ⟨#[]⟩), .val (.int .i64 0), .val (.int .i64 0), .cE, .val (.int .i64 0)]:=⟨by kernel_rfl⟩
instance atP:lM az 34 [.val (.int .i64 0), .val (.string ⟨#[]⟩), .val (.int .i64 0), .val (.int .i64 0), .own [] 0, .val (.int .i64 0)]:=⟨by kernel_rfl⟩
instance apd:Fd az 34 0 0 1 false:=⟨by kernel_rfl⟩
instance ape:Fd az 34 1 1 1 false:=⟨by kernel_rfl⟩
instance apf:Fd az 34 2 2 1 false:=⟨by kernel_rfl⟩
instance apg:Fd az 34 3 3 1 false:=⟨by kernel_rfl⟩
instance aph:Fd az 34 4 4 1 false:=⟨by kernel_rfl⟩
instance api:Fd az 34 5 5 1 false:=⟨by kernel_rfl⟩
instance arG:Pl az 34 [(0,1,false),(1,1,false),(2,1,false),(3,1,false),(4,1,false),(5,1,false)]:=⟨by kernel_rfl⟩
instance ase:dO az 38 false 1:=⟨by kernel_rfl,by kernel_rfl⟩
instance apj:Fd az 39 0 0 1 false:=⟨by kernel_rfl⟩
instance asg:dO az 41 true 2:=⟨by kernel_rfl,by kernel_rfl⟩
instance atE:lK az 41 [.cE, .cE]:=⟨by kernel_rfl⟩
instance apk:Fd az 41 0 0 1 true:=⟨by kernel_rfl⟩
instance apl:Fd az 41 1 1 1 true:=⟨by kernel_rfl⟩
instance arH:Pl az 41 [(0,1,true),(1,1,true)]:=⟨by kernel_rfl⟩
instance are:uW az 60 .string (ov (ByteArray.mk #[])):=⟨by kernel_rfl⟩
instance ash:dO az 64 true 2:=⟨by kernel_rfl,by kernel_rfl⟩
instance atF:lK az 64 [.cE, .cE]:=⟨by kernel_rfl⟩
instance atS:lM az 64 [.own [] 0, .own [] 0]:=⟨by kernel_rfl⟩
instance apm:Fd az 64 0 0 1 true:=⟨by kernel_rfl⟩
instance apn:Fd az 64 1 1 1 false:=⟨by kernel_rfl⟩
instance arI:Pl az 64 [(0,1,true),(1,1,false)]:=⟨by kernel_rfl⟩
instance asi:dO az 73 true 7:=⟨by kernel_rfl,by kernel_rfl⟩
instance atG:lK az 73 [.cE, .cE, .val (.int .i64 0), .val (.int .i64 0), .val (.int .i64 0), .val (.int .i64 0), .val (.int .i64 0)]:=⟨by kernel_rfl⟩
instance atT:lM az 73 [.own [] 0, .own [] 0, .val (.int .i64 0), .val (.int .i64 0), .val (.int .i64 0), .val (.int .i64 0), .val (.int .i64 0)]:=⟨by kernel_rfl⟩
instance apo:Fd az 73 0 0 1 false:=⟨by kernel_rfl⟩
instance apq:Fd az 73 1 1 1 false:=⟨by kernel_rfl⟩
instance apr:Fd az 73 2 2 1 false:=⟨by kernel_rfl⟩
instance aps:Fd az 73 3 3 1 false:=⟨by kernel_rfl⟩
instance apt:Fd az 73 4 4 1 false:=⟨by kernel_rfl⟩
instance apu:Fd az 73 5 5 2 true:=⟨by kernel_rfl⟩
instance arJ:Pl az 73 [(0,1,false),(1,1,false),(2,1,false),(3,1,false),(4,1,false),(5,2,true)]:=⟨by kernel_rfl⟩
instance asQ:ff az 77 (.slice 79):=⟨Tryz.underlying77⟩
instance asj:dO az 77 false 1:=⟨by kernel_rfl,by kernel_rfl⟩
instance atU:lM az 77 [.own [] 0]:=⟨by kernel_rfl⟩
instance asR:ff az 79 (.pointer 3):=⟨Tryz.underlying79⟩
instance asl:dO az 79 false 1:=⟨by kernel_rfl,by kernel_rfl⟩
instance atV:lM az 79 [.val (.pointer none)]:=⟨by kernel_rfl⟩
instance arf:uW az 80 (.int .i64) (Ea false):=⟨by kernel_rfl⟩
instance asm:dO az 80 false 1:=⟨by kernel_rfl,by kernel_rfl⟩
instance atW:lM az 80 [.val (.map none)]:=⟨by kernel_rfl⟩
instance aso:dO az 91 true 6:=⟨by kernel_rfl,by kernel_rfl⟩
instance atX:lM az 91 [.own [] 0, .own [] 0, .val (.int .i64 0), .val (.int .i64 0), .val (.int .i64 0), .own [] 0]:=⟨by kernel_rfl⟩
instance apv:Fd az 91 0 0 1 false:=⟨by kernel_rfl⟩
instance apw:Fd az 91 1 1 1 false:=⟨by kernel_rfl⟩
instance apx:Fd az 91 2 2 1 false:=⟨by kernel_rfl⟩
instance apy:Fd az 91 3 3 2 true:=⟨by kernel_rfl⟩
instance apz:Fd az 91 4 5 1 false:=⟨by kernel_rfl⟩
instance asT:ff az 93 (.int .u64):=⟨Tryz.underlying93⟩
instance asp:dO az 94 false 1:=⟨by kernel_rfl,by kernel_rfl⟩
instance atY:lM az 94 [.val (.pointer none)]:=⟨by kernel_rfl⟩
instance asq:dO az 96 true 11:=⟨by kernel_rfl,by kernel_rfl⟩
instance atI:lK az 96 [.cE, .cE, .cE, .val (.int .i64 0), .val (.string ⟨#[]⟩), .val (.int .i64 0), .val (.int .i64 0), .cE, .val (.int .i64 0), .val (.int .i64 0), .val (.int .i64 0)]:=⟨by kernel_rfl⟩
instance apA:Fd az 96 0 0 1 true:=⟨by kernel_rfl⟩
instance apB:Fd az 96 1 1 1 false:=⟨by kernel_rfl⟩
instance apC:Fd az 96 2 2 1 false:=⟨by kernel_rfl⟩
instance apD:Fd az 96 3 3 6 true:=⟨by kernel_rfl⟩
instance apE:Fd az 96 4 9 1 false:=⟨by kernel_rfl⟩
instance apF:Fd az 96 5 10 1 false:=⟨by kernel_rfl⟩
instance arK:Pl az 96 [(0,1,true),(1,1,false),(2,1,false),(3,6,true),(9,1,false),(10,1,false)]:=⟨by kernel_rfl⟩
instance ar3:dO az 102 true 2:=⟨by kernel_rfl,by kernel_rfl⟩
instance atx:lK az 102 [.val (.int .i64 0), .val (.bool false)]:=⟨by kernel_rfl⟩
instance atJ:lM az 102 [.val (.int .i64 0), .val (.bool false)]:=⟨by kernel_rfl⟩
instance ao6:Fd az 102 0 0 1 false:=⟨by kernel_rfl⟩
instance ao7:Fd az 102 1 1 1 false:=⟨by kernel_rfl⟩
instance arC:Pl az 102 [(0,1,false),(1,1,false)]:=⟨by kernel_rfl⟩
instance asL:ff az 107 (.slice 9):=⟨Tryz.underlying107⟩
instance ar4:dO az 113 false 1:=⟨by kernel_rfl,by kernel_rfl⟩
instance atK:lM az 113 [.val (.pointer none)]:=⟨by kernel_rfl⟩
instance ard:uW az 114 .string (qB 0):=⟨by kernel_rfl⟩
instance ar5:dO az 114 false 1:=⟨by kernel_rfl,by kernel_rfl⟩
instance aty:lK az 114 [.val (.map none)]:=⟨by kernel_rfl⟩
instance asM:ff az 115 (.slice 114):=⟨Tryz.underlying115⟩
instance ar6:dO az 115 false 1:=⟨by kernel_rfl,by kernel_rfl⟩
instance ar7:dO az 117 true 3:=⟨by kernel_rfl,by kernel_rfl⟩
instance atz:lK az 117 [.cE, .cE, .cE]:=⟨by kernel_rfl⟩
instance ao8:Fd az 117 0 0 1 true:=⟨by kernel_rfl⟩
instance ao9:Fd az 117 1 1 1 false:=⟨by kernel_rfl⟩
instance apa:Fd az 117 2 2 1 false:=⟨by kernel_rfl⟩
instance arD:Pl az 117 [(0,1,true),(1,1,false),(2,1,false)]:=⟨by kernel_rfl⟩
instance aov:rT az 3 1:=⟨by kernel_rfl⟩
instance aow:rT az 34 6:=⟨by kernel_rfl⟩
instance aox:rT az 79 1:=⟨by kernel_rfl⟩
instance aou:rT az 114 1:=⟨by kernel_rfl⟩
structure aM where
 Kind:Int
 Text:ByteArray
 N:Int
 fy:Int
 Kids:(List Int)
 bu:Int
 deriving DecidableEq,Inhabited
structure ay where aK:(List aM)deriving DecidableEq,Inhabited
structure aJ where
 Code:Int
 bu:Int
 deriving DecidableEq,Inhabited
structure bp where
 Has:(List Int)
 Room:(List Int)
 iB:Int
 cL:aJ
 cB:(List Int)
 deriving DecidableEq,Inhabited
structure bX where
 Names:(List Int)
 cB:(List Int)
 hO:Int
 gi:Int
 gh:Int
 cL:aJ
 deriving DecidableEq,Inhabited
structure iX where
 t:ay
 first:(List Int)
 deriving DecidableEq,Inhabited
structure jI where
 Op:Int
 yq:Bool
 deriving DecidableEq,Inhabited
structure aS where
 t:ay
 out:(List Int)
 room:((List (List (ByteArray×Int)))×Nat)
 deriving DecidableEq,Inhabited
structure cD where
 t:ay
 names:(List Int)
 cq:(List Int)
 fn:aM
 loops:Int
 leave:Int
 deriving DecidableEq,Inhabited
structure bQ where
 jn:ay
 t:ay
 deriving DecidableEq,Inhabited
def bq(x:Int):List aa:=[(I x)]
instance:jF bq:=⟨fun x=>rfl⟩
instance:rW bq:=⟨fun x=>rfl,fun x=>rfl⟩
instance:Iv bq bq:=⟨fun x=>rfl⟩
def bh(x:aM):List aa:=[(I x.Kind),(aa.val (.string x.Text)),(I x.N),(I x.fy),(.sl ((x.Kids).map bq)),(I x.bu)]
instance:jF bh:=⟨fun x=>rfl⟩
instance:rW bh:=⟨fun x=>rfl,fun x=>rfl⟩
instance:Iv bh bh:=⟨fun x=>rfl⟩
def aW(x:ay):List aa:=[(.sl ((x.aK).map bh))]
def cY(x:aJ):List aa:=[(I x.Code),(I x.bu)]
def EZ(x:ByteArray):List aa:=[(aa.val (.string x))]
def E0(x:bp):List aa:=[(.sl ((x.Has).map bq)),(.sl ((x.Room).map bq)),(I x.iB),(I x.cL.Code),(I x.cL.bu),(.sl ((x.cB).map bq))]
def gN(x:bp):List aa:=[(.sl ((x.Has).map bq)),(.sl ((x.Room).map bq)),(I x.iB),(I x.cL.Code),(I x.cL.bu),(.own ((x.cB).map bq) (x.cB).length)]
def qP(x:bp):List aa:=[(.own ((x.Has).map bq) (x.Has).length),(.own ((x.Room).map bq) (x.Room).length),(I x.iB),(I x.cL.Code),(I x.cL.bu),(.own ((x.cB).map bq) (x.cB).length)]
def hU(x:bX):List aa:=[(.sl ((x.Names).map bq)),(.sl ((x.cB).map bq)),(I x.hO),(I x.gi),(I x.gh),(I x.cL.Code),(I x.cL.bu)]
def tq(x:bX):List aa:=[(.sl ((x.Names).map bq)),(.own ((x.cB).map bq) (x.cB).length),(I x.hO),(I x.gi),(I x.gh),(I x.cL.Code),(I x.cL.bu)]
def Bq(x:bX):List aa:=[(.own ((x.Names).map bq) (x.Names).length),(.own ((x.cB).map bq) (x.cB).length),(I x.hO),(I x.gi),(I x.gh),(I x.cL.Code),(I x.cL.bu)]
def yG(x:iX):List aa:=[(.sl ((x.t.aK).map bh)),(.own ((x.first).map bq) (x.first).length)]
def Rr(x:jI):List aa:=[(I x.Op),(B x.yq)]
def L3(x:(List (ByteArray×Int))):List aa:=[(.im ((x).map (lT ov qB)))]
def E9(x:(List (ByteArray×Int))):List aa:=[(.eO ((x).map (lT ov qB)))]
instance:jF E9:=⟨fun x=>by simp only[E9,Jn,Jo,Jt,Jv,Ju,Js,Jr,Bool.and_true,Bool.and_self,qX]⟩
instance:A2 E9 L3:=⟨fun L n x=>by simp only[E9,L3];exact acm,fun x=>rfl⟩
def LU(x:aS):List aa:=[(.sl ((x.t.aK).map bh)),(.sl ((x.out).map bq)),(.sl (((List.take x.room.2 x.room.1)).map L3))]
def eF(x:aS):List aa:=[(.sl ((x.t.aK).map bh)),(.own ((x.out).map bq) (x.out).length),(.own ((x.room).1.map E9) (x.room).2)]
instance:jF eF:=⟨fun x=>by simp only[eF,Jn,Jo,Jt,Jv,Ju,Js,Jr,Bool.and_true,Bool.and_self,qX]⟩
def me(x:cD):List aa:=[(.sl ((x.t.aK).map bh)),(.sl ((x.names).map bq)),(.sl ((x.cq).map bq)),(I x.fn.Kind),(aa.val (.string x.fn.Text)),(I x.fn.N),(I x.fn.fy),(.sl ((x.fn.Kids).map bq)),(I x.fn.bu),(I x.loops),(I x.leave)]
def pQ(x:cD):List aa:=[(.sl ((x.t.aK).map bh)),(.sl ((x.names).map bq)),(.own ((x.cq).map bq) (x.cq).length),(I x.fn.Kind),(aa.val (.string x.fn.Text)),(I x.fn.N),(I x.fn.fy),(.sl ((x.fn.Kids).map bq)),(I x.fn.bu),(I x.loops),(I x.leave)]
instance:jF pQ:=⟨fun x=>by simp only[pQ,Jn,Jo,Jt,Jv,Ju,Js,Jr,Bool.and_true,Bool.and_self,qX]⟩
def Bw(x:(List (Option Int))):List aa:=[(.sl ((x).map j0))]
def eG(x:bQ):List aa:=[(.own ((x.jn.aK).map bh) (x.jn.aK).length),(.sl ((x.t.aK).map bh))]
def r6(x:ay):List aa:=[(.own ((x.aK).map bh) (x.aK).length)]
instance:jF r6:=⟨fun x=>by simp only[r6,Jn,Jo,Jt,Jv,Ju,Js,Jr,Bool.and_true,Bool.and_self,qX]⟩
theorem ad0(x y:Operand){sP q0:Int}{p1 q1:Int}:eZ az.P .eql 26 x y (.agg ⟨[.int .i64 sP, .int .i64 p1]⟩) (.agg ⟨[.int .i64 q0, .int .i64 q1]⟩)=some (.bool ((sP==q0)&&((p1==q1)&&true))):=abF (P:=Tryz.prog) Tryz.underlying26 Tryz.stoodInHeld26 Tryz.eqGuardType26 (by simp[wL,Tryz.underlying3,fits,HC])
theorem sd(x y:Operand){sP q0:Int}{p1 q1:Int}:eZ az.P .neq 26 x y (.agg ⟨[.int .i64 sP, .int .i64 p1]⟩) (.agg ⟨[.int .i64 q0, .int .i64 q1]⟩)=some (.bool (!((sP==q0)&&((p1==q1)&&true)))):=abN (P:=Tryz.prog) Tryz.underlying26 Tryz.stoodInHeld26 Tryz.eqGuardType26 (by simp[wL,Tryz.underlying3,fits,HC])
end Go.Ab
