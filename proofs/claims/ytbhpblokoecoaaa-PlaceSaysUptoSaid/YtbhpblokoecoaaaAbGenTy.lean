import Derived.Test.YtbhpblokoecoaaaAbCx
namespace Go.Ab
open Go Go.Proofs
instance akQ:eC aA 3 (.int .i64):=⟨Try.underlying3⟩
instance aj9:dx aA 3 false 1:=⟨by kernel_rfl,by kernel_rfl⟩
instance alC:lM aA 3 [.val (.int .i64 0)]:=⟨by kernel_rfl⟩
instance alN:jE aA 3 [.val (.int .i64 0)]:=⟨by kernel_rfl⟩
instance akb:dx aA 4 false 1:=⟨by kernel_rfl,by kernel_rfl⟩
instance alP:jE aA 4 [.val (.bool false)]:=⟨by kernel_rfl⟩
instance akV:eC aA 9 .string:=⟨Try.underlying9⟩
instance akq:dx aA 9 false 1:=⟨by kernel_rfl,by kernel_rfl⟩
instance alJ:lM aA 9 [.val (.string ⟨#[]⟩)]:=⟨by kernel_rfl⟩
instance akO:eC aA 22 (.slice 44):=⟨Try.underlying22⟩
instance aj5:dx aA 22 false 1:=⟨by kernel_rfl,by kernel_rfl⟩
instance aj6:dx aA 24 true 1:=⟨by kernel_rfl,by kernel_rfl⟩
instance ahm:Fd aA 24 0 0 1 false:=⟨by kernel_rfl⟩
instance akP:eC aA 25 (.slice 3):=⟨Try.underlying25⟩
instance aj7:dx aA 25 false 1:=⟨by kernel_rfl,by kernel_rfl⟩
instance alL:jE aA 25 [.own [] 0]:=⟨by kernel_rfl⟩
instance aj8:dx aA 27 true 2:=⟨by kernel_rfl,by kernel_rfl⟩
instance alB:lM aA 27 [.val (.int .i64 0), .val (.int .i64 0)]:=⟨by kernel_rfl⟩
instance alM:jE aA 27 [.val (.int .i64 0), .val (.int .i64 0)]:=⟨by kernel_rfl⟩
instance ahn:Fd aA 27 0 0 1 false:=⟨by kernel_rfl⟩
instance ajK:Pl aA 27 [(0,1,false),(1,1,false)]:=⟨by kernel_rfl⟩
instance akR:eC aA 33 (.slice 69):=⟨Try.underlying33⟩
instance aka:dx aA 33 false 1:=⟨by kernel_rfl,by kernel_rfl⟩
instance alO:jE aA 33 [.own [] 0]:=⟨by kernel_rfl⟩
instance akc:dx aA 44 true 6:=⟨by kernel_rfl,by kernel_rfl⟩
instance alQ:jE aA 44 [.val (.int .i64 0), .val (.string ⟨#[]⟩), .val (.int .i64 0), .val (.int .i64 0), .own [] 0, .val (.int .i64 0)]:=⟨by kernel_rfl⟩
instance aho:Fd aA 44 0 0 1 false:=⟨by kernel_rfl⟩
instance ahp:Fd aA 44 1 1 1 false:=⟨by kernel_rfl⟩
instance ahq:Fd aA 44 2 2 1 false:=⟨by kernel_rfl⟩
instance ahr:Fd aA 44 3 3 1 false:=⟨by kernel_rfl⟩
instance ahs:Fd aA 44 4 4 1 false:=⟨by kernel_rfl⟩
instance aht:Fd aA 44 5 5 1 false:=⟨by kernel_rfl⟩
instance akd:dx aA 45 false 1:=⟨by kernel_rfl,by kernel_rfl⟩
instance alR:jE aA 45 [.val (.pointer none)]:=⟨by kernel_rfl⟩
instance ajt:vz aA 46 .string (oh 0):=⟨by kernel_rfl⟩
instance ake:dx aA 46 false 1:=⟨by kernel_rfl,by kernel_rfl⟩
instance alD:lM aA 46 [.val (.map none)]:=⟨by kernel_rfl⟩
instance akS:eC aA 47 (.slice 46):=⟨Try.underlying47⟩
instance akf:dx aA 47 false 1:=⟨by kernel_rfl,by kernel_rfl⟩
instance akg:dx aA 49 true 3:=⟨by kernel_rfl,by kernel_rfl⟩
instance alE:lM aA 49 [.cN, .cN, .cN]:=⟨by kernel_rfl⟩
instance ahu:Fd aA 49 0 0 1 true:=⟨by kernel_rfl⟩
instance ahv:Fd aA 49 1 1 1 false:=⟨by kernel_rfl⟩
instance ahw:Fd aA 49 2 2 1 false:=⟨by kernel_rfl⟩
instance ajL:Pl aA 49 [(0,1,true),(1,1,false),(2,1,false)]:=⟨by kernel_rfl⟩
instance akh:dx aA 57 true 6:=⟨by kernel_rfl,by kernel_rfl⟩
instance alS:jE aA 57 [.own [] 0, .own [] 0, .val (.int .i64 0), .val (.int .i64 0), .val (.int .i64 0), .own [] 0]:=⟨by kernel_rfl⟩
instance ahx:Fd aA 57 0 0 1 false:=⟨by kernel_rfl⟩
instance ahy:Fd aA 57 1 1 1 false:=⟨by kernel_rfl⟩
instance ahz:Fd aA 57 2 2 1 false:=⟨by kernel_rfl⟩
instance ahA:Fd aA 57 3 3 2 true:=⟨by kernel_rfl⟩
instance ahB:Fd aA 57 4 5 1 false:=⟨by kernel_rfl⟩
instance aki:dx aA 59 false 1:=⟨by kernel_rfl,by kernel_rfl⟩
instance alT:jE aA 59 [.val (.pointer none)]:=⟨by kernel_rfl⟩
instance akj:dx aA 61 true 11:=⟨by kernel_rfl,by kernel_rfl⟩
instance alF:lM aA 61 [.cN, .cN, .cN, .val (.int .i64 0), .val (.string ⟨#[]⟩), .val (.int .i64 0), .val (.int .i64 0), .cN, .val (.int .i64 0), .val (.int .i64 0), .val (.int .i64 0)]:=⟨by kernel_rfl⟩
instance ahC:Fd aA 61 0 0 1 true:=⟨by kernel_rfl⟩
instance ahD:Fd aA 61 1 1 1 false:=⟨by kernel_rfl⟩
instance ahE:Fd aA 61 2 2 1 false:=⟨by kernel_rfl⟩
instance ahF:Fd aA 61 3 3 6 true:=⟨by kernel_rfl⟩
instance ahG:Fd aA 61 4 9 1 false:=⟨by kernel_rfl⟩
instance ahH:Fd aA 61 5 10 1 false:=⟨by kernel_rfl⟩
instance ajM:Pl aA 61 [(0,1,true),(1,1,false),(2,1,false),(3,6,true),(9,1,false),(10,1,false)]:=⟨by kernel_rfl⟩
instance akk:dx aA 64 true 7:=⟨by kernel_rfl,by kernel_rfl⟩
instance alG:lM aA 64 [.cN, .cN, .val (.int .i64 0), .val (.int .i64 0), .val (.int .i64 0), .val (.int .i64 0), .val (.int .i64 0)]:=⟨by kernel_rfl⟩
instance alU:jE aA 64 [.own [] 0, .own [] 0, .val (.int .i64 0), .val (.int .i64 0), .val (.int .i64 0), .val (.int .i64 0), .val (.int .i64 0)]:=⟨by kernel_rfl⟩
instance ahI:Fd aA 64 0 0 1 false:=⟨by kernel_rfl⟩
instance ahJ:Fd aA 64 1 1 1 false:=⟨by kernel_rfl⟩
instance ahK:Fd aA 64 2 2 1 false:=⟨by kernel_rfl⟩
instance ahL:Fd aA 64 3 3 1 false:=⟨by kernel_rfl⟩
instance ahM:Fd aA 64 4 4 1 false:=⟨by kernel_rfl⟩
instance ahN:Fd aA 64 5 5 2 true:=⟨by kernel_rfl⟩
instance ajN:Pl aA 64 [(0,1,false),(1,1,false),(2,1,false),(3,1,false),(4,1,false),(5,2,true)]:=⟨by kernel_rfl⟩
instance akl:dx aA 69 true 3:=⟨by kernel_rfl,by kernel_rfl⟩
instance alH:lM aA 69 [.val (.string ⟨#[]⟩), .val (.int .i64 0), .cN]:=⟨by kernel_rfl⟩
instance alV:jE aA 69 [.val (.string ⟨#[]⟩), .val (.int .i64 0), .own [] 0]:=⟨by kernel_rfl⟩
instance ahO:Fd aA 69 0 0 1 false:=⟨by kernel_rfl⟩
instance ahP:Fd aA 69 1 1 1 false:=⟨by kernel_rfl⟩
instance ahQ:Fd aA 69 2 2 1 false:=⟨by kernel_rfl⟩
instance ajO:Pl aA 69 [(0,1,false),(1,1,false),(2,1,false)]:=⟨by kernel_rfl⟩
instance akm:dx aA 76 true 2:=⟨by kernel_rfl,by kernel_rfl⟩
instance alI:lM aA 76 [.cN, .cN]:=⟨by kernel_rfl⟩
instance alW:jE aA 76 [.own [] 0, .own [] 0]:=⟨by kernel_rfl⟩
instance ahR:Fd aA 76 0 0 1 true:=⟨by kernel_rfl⟩
instance ahS:Fd aA 76 1 1 1 false:=⟨by kernel_rfl⟩
instance ajP:Pl aA 76 [(0,1,true),(1,1,false)]:=⟨by kernel_rfl⟩
instance akT:eC aA 81 (.pointer 3):=⟨Try.underlying81⟩
instance akn:dx aA 81 false 1:=⟨by kernel_rfl,by kernel_rfl⟩
instance alX:jE aA 81 [.val (.pointer none)]:=⟨by kernel_rfl⟩
instance akU:eC aA 82 (.slice 81):=⟨Try.underlying82⟩
instance ako:dx aA 82 false 1:=⟨by kernel_rfl,by kernel_rfl⟩
instance alY:jE aA 82 [.own [] 0]:=⟨by kernel_rfl⟩
instance aju:vz aA 84 (.int .i64) (Bo false):=⟨by kernel_rfl⟩
instance akp:dx aA 84 false 1:=⟨by kernel_rfl,by kernel_rfl⟩
instance alZ:jE aA 84 [.val (.map none)]:=⟨by kernel_rfl⟩
instance aj4:dx aA 104 true 2:=⟨by kernel_rfl,by kernel_rfl⟩
instance alA:lM aA 104 [.val (.int .i64 0), .val (.bool false)]:=⟨by kernel_rfl⟩
instance alK:jE aA 104 [.val (.int .i64 0), .val (.bool false)]:=⟨by kernel_rfl⟩
instance ahk:Fd aA 104 0 0 1 false:=⟨by kernel_rfl⟩
instance ahl:Fd aA 104 1 1 1 false:=⟨by kernel_rfl⟩
instance ajJ:Pl aA 104 [(0,1,false),(1,1,false)]:=⟨by kernel_rfl⟩
instance akM:eC aA 108 (.int .u64):=⟨Try.underlying108⟩
instance akN:eC aA 110 (.slice 9):=⟨Try.underlying110⟩
instance agF:r3 aA 3 1:=⟨by kernel_rfl⟩
instance agG:r3 aA 46 1:=⟨by kernel_rfl⟩
instance agH:r3 aA 69 3:=⟨by kernel_rfl⟩
instance agI:r3 aA 81 1:=⟨by kernel_rfl⟩
structure aZ where
 Kind : Int
 Text : ByteArray
 N : Int
 ew : Int
 Kids : (List Int)
 en : Int
 deriving DecidableEq, Inhabited
structure aN where aP:(List aZ)deriving DecidableEq,Inhabited
structure aG where
 Code : Int
 en : Int
 deriving DecidableEq, Inhabited
structure bh where
 Has : (List Int)
 Room : (List Int)
 gB : Int
 cy : aG
 cq : (List Int)
 deriving DecidableEq, Inhabited
structure bK where
 Names : (List Int)
 cq : (List Int)
 gp : Int
 fu : Int
 fq : Int
 cy : aG
 deriving DecidableEq, Inhabited
structure cW where
 Name : ByteArray
 ew : Int
 Init : (List Int)
 deriving DecidableEq, Inhabited
structure gT where
 t : aN
 first : (List Int)
 deriving DecidableEq, Inhabited
structure iq where
 Op : Int
 vC : Bool
 deriving DecidableEq, Inhabited
structure aL where
 t : aN
 out : (List Int)
 room : ((List (List (ByteArray × Int))) × Nat)
 deriving DecidableEq, Inhabited
structure ct where
 t : aN
 names : (List Int)
 b7 : (List Int)
 fn : aZ
 loops : Int
 leave : Int
 deriving DecidableEq, Inhabited
def bk(x:Int):List aa:=[(I x)]
instance:jQ bk:=⟨fun x=>rfl⟩
instance:qy bk:=⟨fun x=>rfl,fun x=>rfl⟩
instance:EI bk bk:=⟨fun x=>rfl⟩
def bA(x:aZ):List aa:=[(I x.Kind),(aa.val (.string x.Text)),(I x.N),(I x.ew),(.sl ((x.Kids).map bk)),(I x.en)]
instance:jQ bA:=⟨fun x=>rfl⟩
instance:qy bA:=⟨fun x=>rfl,fun x=>rfl⟩
def bg(x:aN):List aa:=[(.sl ((x.aP).map bA))]
def cA(x:aG):List aa:=[(I x.Code),(I x.en)]
def BW(x:ByteArray):List aa:=[(aa.val (.string x))]
def BX(x:bh):List aa:=[(.sl ((x.Has).map bk)),(.sl ((x.Room).map bk)),(I x.gB),(I x.cy.Code),(I x.cy.en),(.sl ((x.cq).map bk))]
def fO(x:bh):List aa:=[(.sl ((x.Has).map bk)),(.sl ((x.Room).map bk)),(I x.gB),(I x.cy.Code),(I x.cy.en),(.own ((x.cq).map bk) (x.cq).length)]
def oy(x:bh):List aa:=[(.own ((x.Has).map bk) (x.Has).length),(.own ((x.Room).map bk) (x.Room).length),(I x.gB),(I x.cy.Code),(I x.cy.en),(.own ((x.cq).map bk) (x.cq).length)]
def gq(x:bK):List aa:=[(.sl ((x.Names).map bk)),(.sl ((x.cq).map bk)),(I x.gp),(I x.fu),(I x.fq),(I x.cy.Code),(I x.cy.en)]
def qI(x:bK):List aa:=[(.sl ((x.Names).map bk)),(.own ((x.cq).map bk) (x.cq).length),(I x.gp),(I x.fu),(I x.fq),(I x.cy.Code),(I x.cy.en)]
def yP(x:bK):List aa:=[(.own ((x.Names).map bk) (x.Names).length),(.own ((x.cq).map bk) (x.cq).length),(I x.gp),(I x.fu),(I x.fq),(I x.cy.Code),(I x.cy.en)]
def vN(x:gT):List aa:=[(.sl ((x.t.aP).map bA)),(.own ((x.first).map bk) (x.first).length)]
def MG(x:iq):List aa:=[(I x.Op),(B x.vC)]
def HY(x:(List (ByteArray×Int))):List aa:=[(.im ((x).map (lp yd oh)))]
def B4(x:(List (ByteArray×Int))):List aa:=[(.dW ((x).map (lp yd oh)))]
instance:jQ B4:=⟨fun x=>by simp only[B4,Ip,Iq,It,Iv,Iu,Is,Ir,Bool.and_true,Bool.and_self,sy]⟩
instance:yo B4 HY:=⟨fun L n x=>by simp only[B4,HY];exact Wn,fun x=>rfl⟩
def HW(x:aL):List aa:=[(.sl ((x.t.aP).map bA)),(.sl ((x.out).map bk)),(.sl (((List.take x.room.2 x.room.1)).map HY))]
def dQ(x:aL):List aa:=[(.sl ((x.t.aP).map bA)),(.own ((x.out).map bk) (x.out).length),(.own ((x.room).1.map B4) (x.room).2)]
instance:jQ dQ:=⟨fun x=>by simp only[dQ,Ip,Iq,It,Iv,Iu,Is,Ir,Bool.and_true,Bool.and_self,sy]⟩
def kg(x:ct):List aa:=[(.sl ((x.t.aP).map bA)),(.sl ((x.names).map bk)),(.sl ((x.b7).map bk)),(I x.fn.Kind),(aa.val (.string x.fn.Text)),(I x.fn.N),(I x.fn.ew),(.sl ((x.fn.Kids).map bk)),(I x.fn.en),(I x.loops),(I x.leave)]
def nu(x:ct):List aa:=[(.sl ((x.t.aP).map bA)),(.sl ((x.names).map bk)),(.own ((x.b7).map bk) (x.b7).length),(I x.fn.Kind),(aa.val (.string x.fn.Text)),(I x.fn.N),(I x.fn.ew),(.sl ((x.fn.Kids).map bk)),(I x.fn.en),(I x.loops),(I x.leave)]
instance:jQ nu:=⟨fun x=>by simp only[nu,Ip,Iq,It,Iv,Iu,Is,Ir,Bool.and_true,Bool.and_self,sy]⟩
def yU(x:(List (Option Int))):List aa:=[(.sl ((x).map iK))]
def hJ(x:cW):List aa:=[(aa.val (.string x.Name)),(I x.ew),(.sl ((x.Init).map bk))]
instance:jQ hJ:=⟨fun x=>rfl⟩
instance:qy hJ:=⟨fun x=>rfl,fun x=>rfl⟩
instance:EI hJ hJ:=⟨fun x=>rfl⟩
def E9(x:cW):List aa:=[(aa.val (.string x.Name)),(I x.ew),(.own ((x.Init).map bk) (x.Init).length)]
theorem Nd(x y:Operand){sY q0:Int}{p1 q1:Int}:eo aA.P .eql 27 x y (.agg ⟨[.int .i64 sY, .int .i64 p1]⟩) (.agg ⟨[.int .i64 q0, .int .i64 q1]⟩)=some (.bool ((sY==q0)&&((p1==q1)&&true))):=VN (P:=Try.prog) Try.underlying27 Try.stoodInHeld27 Try.eqGuardType27 (by simp[uc,Try.underlying3,fits,D7])
theorem lS(x y:Operand){sY q0:Int}{p1 q1:Int}:eo aA.P .neq 27 x y (.agg ⟨[.int .i64 sY, .int .i64 p1]⟩) (.agg ⟨[.int .i64 q0, .int .i64 q1]⟩)=some (.bool (!((sY==q0)&&((p1==q1)&&true)))):=VV (P:=Try.prog) Try.underlying27 Try.stoodInHeld27 Try.eqGuardType27 (by simp[uc,Try.underlying3,fits,D7])
end Go.Ab
