import Derived.Test.YtbikcahlonfnmaaGreatAbCx
namespace Go.Ab
open Go Go.Proofs
instance aqa:eL ay 3 (.int .i64):=⟨Tryz.underlying3⟩
instance apx:dr ay 3 false 1:=⟨by kernel_rfl,by kernel_rfl⟩
instance aqZ:kE ay 3 [.val (.int .i64 0)]:=⟨by kernel_rfl⟩
instance ara:jE ay 3 [.val (.int .i64 0)]:=⟨by kernel_rfl⟩
instance aqc:eL ay 4 .bool:=⟨Tryz.underlying4⟩
instance apA:dr ay 4 false 1:=⟨by kernel_rfl,by kernel_rfl⟩
instance ard:jE ay 4 [.val (.bool false)]:=⟨by kernel_rfl⟩
instance aqf:eL ay 9 .string:=⟨Tryz.underlying9⟩
instance apM:dr ay 9 false 1:=⟨by kernel_rfl,by kernel_rfl⟩
instance aq6:kE ay 9 [.val (.string ⟨#[]⟩)]:=⟨by kernel_rfl⟩
instance ap9:eL ay 22 (.slice 38):=⟨Tryz.underlying22⟩
instance apu:dr ay 22 false 1:=⟨by kernel_rfl,by kernel_rfl⟩
instance apv:dr ay 24 true 1:=⟨by kernel_rfl,by kernel_rfl⟩
instance aqX:kE ay 24 [.cu]:=⟨by kernel_rfl⟩
instance aq8:jE ay 24 [.own [] 0]:=⟨by kernel_rfl⟩
instance amF:Fd ay 24 0 0 1 false:=⟨by kernel_rfl⟩
instance aoY:Pl ay 24 [(0,1,false)]:=⟨by kernel_rfl⟩
instance apw:dr ay 26 true 2:=⟨by kernel_rfl,by kernel_rfl⟩
instance aqY:kE ay 26 [.val (.int .i64 0), .val (.int .i64 0)]:=⟨by kernel_rfl⟩
instance aq9:jE ay 26 [.val (.int .i64 0), .val (.int .i64 0)]:=⟨by kernel_rfl⟩
instance amG:Fd ay 26 0 0 1 false:=⟨by kernel_rfl⟩
instance aoZ:Pl ay 26 [(0,1,false),(1,1,false)]:=⟨by kernel_rfl⟩
instance aqb:eL ay 36 (.slice 3):=⟨Tryz.underlying36⟩
instance apy:dr ay 36 false 1:=⟨by kernel_rfl,by kernel_rfl⟩
instance arb:jE ay 36 [.own [] 0]:=⟨by kernel_rfl⟩
instance apz:dr ay 38 true 6:=⟨by kernel_rfl,by kernel_rfl⟩
instance aq0:kE ay 38 [.val (.int .i64 0), .val (.string ⟨#[]⟩), .val (.int .i64 0), .val (.int .i64 0), .cu, .val (.int .i64 0)]:=⟨by kernel_rfl⟩
instance arc:jE ay 38 [.val (.int .i64 0), .val (.string ⟨#[]⟩), .val (.int .i64 0), .val (.int .i64 0), .own [] 0, .val (.int .i64 0)]:=⟨by kernel_rfl⟩
instance amH:Fd ay 38 0 0 1 false:=⟨by kernel_rfl⟩
instance amI:Fd ay 38 1 1 1 false:=⟨by kernel_rfl⟩
instance amJ:Fd ay 38 2 2 1 false:=⟨by kernel_rfl⟩
instance amK:Fd ay 38 3 3 1 false:=⟨by kernel_rfl⟩
instance amL:Fd ay 38 4 4 1 false:=⟨by kernel_rfl⟩
instance amM:Fd ay 38 5 5 1 false:=⟨by kernel_rfl⟩
instance ao0:Pl ay 38 [(0,1,false),(1,1,false),(2,1,false),(3,1,false),(4,1,false),(5,1,false)]:=⟨by kernel_rfl⟩
instance aqd:eL ay 44 (.slice 49):=⟨Tryz.underlying44⟩
instance apB:dr ay 44 false 1:=⟨by kernel_rfl,by kernel_rfl⟩
instance are:jE ay 44 [.own [] 0]:=⟨by kernel_rfl⟩
instance apC:dr ay 46 false 1:=⟨by kernel_rfl,by kernel_rfl⟩
instance arf:jE ay 46 [.val (.pointer none)]:=⟨by kernel_rfl⟩
instance apD:dr ay 47 true 1:=⟨by kernel_rfl,by kernel_rfl⟩
instance aq1:kE ay 47 [.cu]:=⟨by kernel_rfl⟩
instance amN:Fd ay 47 0 0 1 false:=⟨by kernel_rfl⟩
instance ao1:Pl ay 47 [(0,1,false)]:=⟨by kernel_rfl⟩
instance apE:dr ay 48 false 1:=⟨by kernel_rfl,by kernel_rfl⟩
instance arh:jE ay 48 [.val .nilFunc]:=⟨by kernel_rfl⟩
instance aqe:eL ay 49 (.pointer 3):=⟨Tryz.underlying49⟩
instance apF:dr ay 49 false 1:=⟨by kernel_rfl,by kernel_rfl⟩
instance ari:jE ay 49 [.val (.pointer none)]:=⟨by kernel_rfl⟩
instance aoD:xk ay 55 (.int .i64) (Db false):=⟨by kernel_rfl⟩
instance apG:dr ay 55 false 1:=⟨by kernel_rfl,by kernel_rfl⟩
instance arj:jE ay 55 [.val (.map none)]:=⟨by kernel_rfl⟩
instance apH:dr ay 72 true 2:=⟨by kernel_rfl,by kernel_rfl⟩
instance aq2:kE ay 72 [.cu, .cu]:=⟨by kernel_rfl⟩
instance ark:jE ay 72 [.own [] 0, .own [] 0]:=⟨by kernel_rfl⟩
instance amO:Fd ay 72 0 0 1 true:=⟨by kernel_rfl⟩
instance amP:Fd ay 72 1 1 1 false:=⟨by kernel_rfl⟩
instance ao2:Pl ay 72 [(0,1,true),(1,1,false)]:=⟨by kernel_rfl⟩
instance apI:dr ay 77 true 2:=⟨by kernel_rfl,by kernel_rfl⟩
instance aq3:kE ay 77 [.val (.int .i64 0), .val (.bool false)]:=⟨by kernel_rfl⟩
instance arl:jE ay 77 [.val (.int .i64 0), .val (.bool false)]:=⟨by kernel_rfl⟩
instance amQ:Fd ay 77 0 0 1 false:=⟨by kernel_rfl⟩
instance amR:Fd ay 77 1 1 1 false:=⟨by kernel_rfl⟩
instance ao3:Pl ay 77 [(0,1,false),(1,1,false)]:=⟨by kernel_rfl⟩
instance apJ:dr ay 82 false 1:=⟨by kernel_rfl,by kernel_rfl⟩
instance arn:jE ay 82 [.val (.pointer none)]:=⟨by kernel_rfl⟩
instance apK:dr ay 84 true 11:=⟨by kernel_rfl,by kernel_rfl⟩
instance aq4:kE ay 84 [.cu, .cu, .cu, .val (.int .i64 0), .val (.string ⟨#[]⟩), .val (.int .i64 0), .val (.int .i64 0), .cu, .val (.int .i64 0), .val (.int .i64 0), .val (.int .i64 0)]:=⟨by kernel_rfl⟩
instance amS:Fd ay 84 0 0 1 true:=⟨by kernel_rfl⟩
instance amT:Fd ay 84 1 1 1 false:=⟨by kernel_rfl⟩
instance amU:Fd ay 84 2 2 1 false:=⟨by kernel_rfl⟩
instance amV:Fd ay 84 3 3 6 true:=⟨by kernel_rfl⟩
instance amW:Fd ay 84 4 9 1 false:=⟨by kernel_rfl⟩
instance amX:Fd ay 84 5 10 1 false:=⟨by kernel_rfl⟩
instance ao4:Pl ay 84 [(0,1,true),(1,1,false),(2,1,false),(3,6,true),(9,1,false),(10,1,false)]:=⟨by kernel_rfl⟩
instance apL:dr ay 88 true 7:=⟨by kernel_rfl,by kernel_rfl⟩
instance aq5:kE ay 88 [.cu, .cu, .val (.int .i64 0), .val (.int .i64 0), .val (.int .i64 0), .val (.int .i64 0), .val (.int .i64 0)]:=⟨by kernel_rfl⟩
instance aro:jE ay 88 [.own [] 0, .own [] 0, .val (.int .i64 0), .val (.int .i64 0), .val (.int .i64 0), .val (.int .i64 0), .val (.int .i64 0)]:=⟨by kernel_rfl⟩
instance amY:Fd ay 88 0 0 1 false:=⟨by kernel_rfl⟩
instance amZ:Fd ay 88 1 1 1 false:=⟨by kernel_rfl⟩
instance am0:Fd ay 88 2 2 1 false:=⟨by kernel_rfl⟩
instance am1:Fd ay 88 3 3 1 false:=⟨by kernel_rfl⟩
instance am2:Fd ay 88 4 4 1 false:=⟨by kernel_rfl⟩
instance am3:Fd ay 88 5 5 2 true:=⟨by kernel_rfl⟩
instance ao5:Pl ay 88 [(0,1,false),(1,1,false),(2,1,false),(3,1,false),(4,1,false),(5,2,true)]:=⟨by kernel_rfl⟩
instance aqg:eL ay 93 (.int .u64):=⟨Tryz.underlying93⟩
instance aqh:eL ay 95 (.slice 9):=⟨Tryz.underlying95⟩
instance apN:dr ay 99 false 1:=⟨by kernel_rfl,by kernel_rfl⟩
instance arp:jE ay 99 [.val (.pointer none)]:=⟨by kernel_rfl⟩
instance aoC:xk ay 100 .string (pg 0):=⟨by kernel_rfl⟩
instance apq:dr ay 100 false 1:=⟨by kernel_rfl,by kernel_rfl⟩
instance aqV:kE ay 100 [.val (.map none)]:=⟨by kernel_rfl⟩
instance ap8:eL ay 101 (.slice 100):=⟨Tryz.underlying101⟩
instance apr:dr ay 101 false 1:=⟨by kernel_rfl,by kernel_rfl⟩
instance aps:dr ay 103 true 3:=⟨by kernel_rfl,by kernel_rfl⟩
instance aqW:kE ay 103 [.cu, .cu, .cu]:=⟨by kernel_rfl⟩
instance amx:Fd ay 103 0 0 1 true:=⟨by kernel_rfl⟩
instance amy:Fd ay 103 1 1 1 false:=⟨by kernel_rfl⟩
instance amz:Fd ay 103 2 2 1 false:=⟨by kernel_rfl⟩
instance aoX:Pl ay 103 [(0,1,true),(1,1,false),(2,1,false)]:=⟨by kernel_rfl⟩
instance apt:dr ay 107 true 6:=⟨by kernel_rfl,by kernel_rfl⟩
instance aq7:jE ay 107 [.own [] 0, .own [] 0, .val (.int .i64 0), .val (.int .i64 0), .val (.int .i64 0), .own [] 0]:=⟨by kernel_rfl⟩
instance amA:Fd ay 107 0 0 1 false:=⟨by kernel_rfl⟩
instance amB:Fd ay 107 1 1 1 false:=⟨by kernel_rfl⟩
instance amC:Fd ay 107 2 2 1 false:=⟨by kernel_rfl⟩
instance amD:Fd ay 107 3 3 2 true:=⟨by kernel_rfl⟩
instance amE:Fd ay 107 4 5 1 false:=⟨by kernel_rfl⟩
instance alU:qz ay 3 1:=⟨by kernel_rfl⟩
instance alV:qz ay 38 6:=⟨by kernel_rfl⟩
instance alW:qz ay 49 1:=⟨by kernel_rfl⟩
instance alT:qz ay 100 1:=⟨by kernel_rfl⟩
structure aZ where
 Kind : Int
 Text : ByteArray
 N : Int
 fA : Int
 Kids : (List Int)
 dm : Int
 deriving DecidableEq, Inhabited
structure aB where aP:(List aZ)deriving DecidableEq,Inhabited
structure aJ where
 Code : Int
 dm : Int
 deriving DecidableEq, Inhabited
structure g8 where
 t : aB
 first : (List Int)
 deriving DecidableEq, Inhabited
structure iI where
 Op : Int
 xu : Bool
 deriving DecidableEq, Inhabited
structure aM where
 t : aB
 out : (List Int)
 room : ((List (List (ByteArray × Int))) × Nat)
 deriving DecidableEq, Inhabited
structure ct where
 t : aB
 names : (List Int)
 b9 : (List Int)
 fn : aZ
 loops : Int
 leave : Int
 deriving DecidableEq, Inhabited
structure bh where
 Has : (List Int)
 Room : (List Int)
 gN : Int
 cy : aJ
 cq : (List Int)
 deriving DecidableEq, Inhabited
structure bP where
 Names : (List Int)
 cq : (List Int)
 gD : Int
 fK : Int
 fJ : Int
 cy : aJ
 deriving DecidableEq, Inhabited
def bn(x:Int):List aa:=[(I x)]
instance:ja bn:=⟨fun x=>rfl⟩
instance:qC bn:=⟨fun x=>rfl,fun x=>rfl⟩
instance:G5 bn bn:=⟨fun x=>rfl⟩
def bu(x:aZ):List aa:=[(I x.Kind),(aa.val (.string x.Text)),(I x.N),(I x.fA),(.sl ((x.Kids).map bn)),(I x.dm)]
instance:ja bu:=⟨fun x=>rfl⟩
instance:qC bu:=⟨fun x=>rfl,fun x=>rfl⟩
instance:G5 bu bu:=⟨fun x=>rfl⟩
def aY(x:aB):List aa:=[(.sl ((x.aP).map bu))]
def cS(x:aJ):List aa:=[(I x.Code),(I x.dm)]
def DP(x:ByteArray):List aa:=[(aa.val (.string x))]
def xJ(x:g8):List aa:=[(.sl ((x.t.aP).map bu)),(.own ((x.first).map bn) (x.first).length)]
def P0(x:iI):List aa:=[(I x.Op),(B x.xu)]
def iJ(x:aB):List aa:=[(.own ((x.aP).map bu) (x.aP).length)]
instance:ja iJ:=⟨fun x=>by simp only[iJ,HZ,H6,Ib,Ie,Ic,Ia,H9,Bool.and_true,Bool.and_self,qW]⟩
def k6(x:(List (Option Int))):List aa:=[(.sl ((x).map jc))]
def KU(x:(List (ByteArray×Int))):List aa:=[(.im ((x).map (mc Ac pg)))]
def D0(x:(List (ByteArray×Int))):List aa:=[(.ez ((x).map (mc Ac pg)))]
instance:ja D0:=⟨fun x=>by simp only[D0,HZ,H6,Ib,Ie,Ic,Ia,H9,Bool.and_true,Bool.and_self,qW]⟩
instance:Ak D0 KU:=⟨fun L n x=>by simp only[D0,KU];exact aaj,fun x=>rfl⟩
def KK(x:aM):List aa:=[(.sl ((x.t.aP).map bu)),(.sl ((x.out).map bn)),(.sl (((List.take x.room.2 x.room.1)).map KU))]
def ei(x:aM):List aa:=[(.sl ((x.t.aP).map bu)),(.own ((x.out).map bn) (x.out).length),(.own ((x.room).1.map D0) (x.room).2)]
instance:ja ei:=⟨fun x=>by simp only[ei,HZ,H6,Ib,Ie,Ic,Ia,H9,Bool.and_true,Bool.and_self,qW]⟩
def k4(x:ct):List aa:=[(.sl ((x.t.aP).map bu)),(.sl ((x.names).map bn)),(.sl ((x.b9).map bn)),(I x.fn.Kind),(aa.val (.string x.fn.Text)),(I x.fn.N),(I x.fn.fA),(.sl ((x.fn.Kids).map bn)),(I x.fn.dm),(I x.loops),(I x.leave)]
def oh(x:ct):List aa:=[(.sl ((x.t.aP).map bu)),(.sl ((x.names).map bn)),(.own ((x.b9).map bn) (x.b9).length),(I x.fn.Kind),(aa.val (.string x.fn.Text)),(I x.fn.N),(I x.fn.fA),(.sl ((x.fn.Kids).map bn)),(I x.fn.dm),(I x.loops),(I x.leave)]
instance:ja oh:=⟨fun x=>by simp only[oh,HZ,H6,Ib,Ie,Ic,Ia,H9,Bool.and_true,Bool.and_self,qW]⟩
def DQ(x:bh):List aa:=[(.sl ((x.Has).map bn)),(.sl ((x.Room).map bn)),(I x.gN),(I x.cy.Code),(I x.cy.dm),(.sl ((x.cq).map bn))]
def gb(x:bh):List aa:=[(.sl ((x.Has).map bn)),(.sl ((x.Room).map bn)),(I x.gN),(I x.cy.Code),(I x.cy.dm),(.own ((x.cq).map bn) (x.cq).length)]
def pK(x:bh):List aa:=[(.own ((x.Has).map bn) (x.Has).length),(.own ((x.Room).map bn) (x.Room).length),(I x.gN),(I x.cy.Code),(I x.cy.dm),(.own ((x.cq).map bn) (x.cq).length)]
def gE(x:bP):List aa:=[(.sl ((x.Names).map bn)),(.sl ((x.cq).map bn)),(I x.gD),(I x.fK),(I x.fJ),(I x.cy.Code),(I x.cy.dm)]
def r7(x:bP):List aa:=[(.sl ((x.Names).map bn)),(.own ((x.cq).map bn) (x.cq).length),(I x.gD),(I x.fK),(I x.fJ),(I x.cy.Code),(I x.cy.dm)]
def AM(x:bP):List aa:=[(.own ((x.Names).map bn) (x.Names).length),(.own ((x.cq).map bn) (x.cq).length),(I x.gD),(I x.fK),(I x.fJ),(I x.cy.Code),(I x.cy.dm)]
theorem K5(x y:Operand){rC q0:Int}{p1 q1:Int}:eA ay.P .eql 26 x y (.agg ⟨[.int .i64 rC, .int .i64 p1]⟩) (.agg ⟨[.int .i64 q0, .int .i64 q1]⟩)=some (.bool ((rC==q0)&&((p1==q1)&&true))):=ZH (P:=Tryz.prog) Tryz.underlying26 Tryz.stoodInHeld26 Tryz.eqGuardType26 (by simp[vb,Tryz.underlying3,fits,Gq])
theorem ov(x y:Operand){rC q0:Int}{p1 q1:Int}:eA ay.P .neq 26 x y (.agg ⟨[.int .i64 rC, .int .i64 p1]⟩) (.agg ⟨[.int .i64 q0, .int .i64 q1]⟩)=some (.bool (!((rC==q0)&&((p1==q1)&&true)))):=ZP (P:=Tryz.prog) Tryz.underlying26 Tryz.stoodInHeld26 Tryz.eqGuardType26 (by simp[vb,Tryz.underlying3,fits,Gq])
end Go.Ab
