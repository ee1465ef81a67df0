import Derived.Test.YtbbhbdlljfffdaaGreatDoorAbCx
set_option linter.all false
namespace Go.Ab
open Go Go.Proofs
variable[iM]
instance ahl:cy aj 2 (.int .i64):=⟨Tryz.underlying2⟩
instance aht:cy aj 3 (.int .i64):=⟨Tryz.underlying3⟩
instance agV:cu aj 3 false 1:=⟨by kernel_rfl,by kernel_rfl⟩
instance aim:iN aj 3 [.val (.int .i64 0)]:=⟨by kernel_rfl⟩
instance aiw:kY aj 3 [.val (.int .i64 0)]:=⟨by kernel_rfl⟩
instance ahv:cy aj 4 .bool:=⟨Tryz.underlying4⟩
instance agY:cu aj 4 false 1:=⟨by kernel_rfl,by kernel_rfl⟩
instance ahx:cy aj 5 (.int .u8):=⟨Tryz.underlying5⟩
instance ag0:cu aj 5 false 1:=⟨by kernel_rfl,by kernel_rfl⟩
instance ahz:cy aj 9 .string:=⟨Tryz.underlying9⟩
instance ag6:cu aj 9 false 1:=⟨by kernel_rfl,by kernel_rfl⟩
instance air:iN aj 9 [.val (.string ⟨#[]⟩)]:=⟨by kernel_rfl⟩
instance ahs:cy aj 22 (.slice 36):=⟨Tryz.underlying22⟩
instance agS:cu aj 22 false 1:=⟨by kernel_rfl,by kernel_rfl⟩
instance agT:cu aj 24 true 1:=⟨by kernel_rfl,by kernel_rfl⟩
instance aik:iN aj 24 [.bU]:=⟨by kernel_rfl⟩
instance aiu:kY aj 24 [.own [] 0]:=⟨by kernel_rfl⟩
instance aeA:Fd aj 24 0 0 1 false:=⟨by kernel_rfl⟩
instance agi:Pl aj 24 [(0,1,false)]:=⟨by kernel_rfl⟩
instance agU:cu aj 26 true 2:=⟨by kernel_rfl,by kernel_rfl⟩
instance ail:iN aj 26 [.val (.int .i64 0), .val (.int .i64 0)]:=⟨by kernel_rfl⟩
instance aiv:kY aj 26 [.val (.int .i64 0), .val (.int .i64 0)]:=⟨by kernel_rfl⟩
instance aeB:Fd aj 26 0 0 1 false:=⟨by kernel_rfl⟩
instance agj:Pl aj 26 [(0,1,false),(1,1,false)]:=⟨by kernel_rfl⟩
instance ahu:cy aj 34 (.slice 3):=⟨Tryz.underlying34⟩
instance agW:cu aj 34 false 1:=⟨by kernel_rfl,by kernel_rfl⟩
instance agX:cu aj 36 true 6:=⟨by kernel_rfl,by kernel_rfl⟩
instance ain:iN aj 36 [.val (.int .i64 0), .val (.string ⟨#[]⟩), .val (.int .i64 0), .val (.int .i64 0), .bU, .val (.int .i64 0)]:=⟨by kernel_rfl⟩
instance aix:kY aj 36 [.val (.int .i64 0), .val (.string ⟨#[]⟩), .val (.int .i64 0), .val (.int .i64 0), .own [] 0, .val (.int .i64 0)]:=⟨by kernel_rfl⟩
instance aeC:Fd aj 36 0 0 1 false:=⟨by kernel_rfl⟩
instance aeD:Fd aj 36 1 1 1 false:=⟨by kernel_rfl⟩
instance aeE:Fd aj 36 2 2 1 false:=⟨by kernel_rfl⟩
instance aeF:Fd aj 36 3 3 1 false:=⟨by kernel_rfl⟩
instance aeG:Fd aj 36 4 4 1 false:=⟨by kernel_rfl⟩
instance aeH:Fd aj 36 5 5 1 false:=⟨by kernel_rfl⟩
instance agk:Pl aj 36 [(0,1,false),(1,1,false),(2,1,false),(3,1,false),(4,1,false),(5,1,false)]:=⟨by kernel_rfl⟩
instance ahw:cy aj 41 (.slice 9):=⟨Tryz.underlying41⟩
instance agZ:cu aj 41 false 1:=⟨by kernel_rfl,by kernel_rfl⟩
instance ahy:cy aj 62 (.slice 111):=⟨Tryz.underlying62⟩
instance ag1:cu aj 62 false 1:=⟨by kernel_rfl,by kernel_rfl⟩
instance ag2:cu aj 70 true 1:=⟨by kernel_rfl,by kernel_rfl⟩
instance aio:iN aj 70 [.bU]:=⟨by kernel_rfl⟩
instance aeI:Fd aj 70 0 0 1 false:=⟨by kernel_rfl⟩
instance agl:Pl aj 70 [(0,1,false)]:=⟨by kernel_rfl⟩
instance ag3:cu aj 72 true 3:=⟨by kernel_rfl,by kernel_rfl⟩
instance aip:iN aj 72 [.bU, .bU, .val (.int .i64 0)]:=⟨by kernel_rfl⟩
instance aeJ:Fd aj 72 0 0 1 true:=⟨by kernel_rfl⟩
instance aeK:Fd aj 72 1 1 1 false:=⟨by kernel_rfl⟩
instance aeL:Fd aj 72 2 2 1 false:=⟨by kernel_rfl⟩
instance agm:Pl aj 72 [(0,1,true),(1,1,false),(2,1,false)]:=⟨by kernel_rfl⟩
instance ag4:cu aj 77 true 2:=⟨by kernel_rfl,by kernel_rfl⟩
instance aiq:iN aj 77 [.bU, .bU]:=⟨by kernel_rfl⟩
instance aiy:kY aj 77 [.own [] 0, .own [] 0]:=⟨by kernel_rfl⟩
instance aeM:Fd aj 77 0 0 1 true:=⟨by kernel_rfl⟩
instance aeN:Fd aj 77 1 1 1 false:=⟨by kernel_rfl⟩
instance agn:Pl aj 77 [(0,1,true),(1,1,false)]:=⟨by kernel_rfl⟩
instance ag5:cu aj 78 false 1:=⟨by kernel_rfl,by kernel_rfl⟩
instance aiz:kY aj 78 [.val .nilFunc]:=⟨by kernel_rfl⟩
instance ahA:cy aj 95 (.slice 98):=⟨Tryz.underlying95⟩
instance ag7:cu aj 95 false 1:=⟨by kernel_rfl,by kernel_rfl⟩
instance aiA:kY aj 95 [.own [] 0]:=⟨by kernel_rfl⟩
instance ag8:cu aj 97 false 1:=⟨by kernel_rfl,by kernel_rfl⟩
instance aiB:kY aj 97 [.val (.pointer none)]:=⟨by kernel_rfl⟩
instance ahB:cy aj 98 (.pointer 3):=⟨Tryz.underlying98⟩
instance ag9:cu aj 98 false 1:=⟨by kernel_rfl,by kernel_rfl⟩
instance aiC:kY aj 98 [.val (.pointer none)]:=⟨by kernel_rfl⟩
instance ahi:cy aj 103 (.interface #[("Error",237)]):=⟨Tryz.underlying103⟩
instance agM:cu aj 103 false 1:=⟨by kernel_rfl,by kernel_rfl⟩
instance aif:iN aj 106 [.val (.int .i64 0), .val (.int .i64 0)]:=⟨by kernel_rfl⟩
instance agd:Pl aj 106 [(0,2,true)]:=⟨by kernel_rfl⟩
instance agN:cu aj 111 true 4:=⟨by kernel_rfl,by kernel_rfl⟩
instance aih:iN aj 111 [.val (.int .i64 0), .val (.string ⟨#[]⟩), .val (.int .i64 0), .val (.int .i64 0)]:=⟨by kernel_rfl⟩
instance ais:kY aj 111 [.val (.int .i64 0), .val (.string ⟨#[]⟩), .val (.int .i64 0), .val (.int .i64 0)]:=⟨by kernel_rfl⟩
instance aeu:Fd aj 111 0 0 1 false:=⟨by kernel_rfl⟩
instance aev:Fd aj 111 1 1 1 false:=⟨by kernel_rfl⟩
instance aew:Fd aj 111 2 2 1 false:=⟨by kernel_rfl⟩
instance aex:Fd aj 111 3 3 1 false:=⟨by kernel_rfl⟩
instance age:Pl aj 111 [(0,1,false),(1,1,false),(2,1,false),(3,1,false)]:=⟨by kernel_rfl⟩
instance agO:cu aj 144 true 2:=⟨by kernel_rfl,by kernel_rfl⟩
instance aii:iN aj 144 [.val (.int .i64 0), .val (.bool false)]:=⟨by kernel_rfl⟩
instance ait:kY aj 144 [.val (.int .i64 0), .val (.bool false)]:=⟨by kernel_rfl⟩
instance aey:Fd aj 144 0 0 1 false:=⟨by kernel_rfl⟩
instance aez:Fd aj 144 1 1 1 false:=⟨by kernel_rfl⟩
instance agf:Pl aj 144 [(0,1,false),(1,1,false)]:=⟨by kernel_rfl⟩
instance ahj:cy aj 161 (.array 10 41):=⟨Tryz.underlying161⟩
instance ahk:cy aj 196 (.array 13 9):=⟨Tryz.underlying196⟩
instance agP:cu aj 196 true 13:=⟨by kernel_rfl,by kernel_rfl⟩
instance ahm:cy aj 201 (.array 43 9):=⟨Tryz.underlying201⟩
instance agQ:cu aj 201 true 43:=⟨by kernel_rfl,by kernel_rfl⟩
instance ahn:cy aj 203 (.int .u64):=⟨Tryz.underlying203⟩
instance aho:cy aj 208 (.int .i64):=⟨Tryz.underlying208⟩
instance ad9:zZ aj 208:=⟨by kernel_rfl⟩
instance ahp:cy aj 209 (.int .u64):=⟨Tryz.underlying209⟩
instance ahq:cy aj 212 (.pointer 218):=⟨Tryz.underlying212⟩
instance ahr:cy aj 216 (.slice 5):=⟨Tryz.underlying216⟩
instance agR:cu aj 218 true 3:=⟨by kernel_rfl,by kernel_rfl⟩
instance aij:iN aj 218 [.val (.string ⟨#[]⟩), .val (.string ⟨#[]⟩), .val .nilIface]:=⟨by kernel_rfl⟩
instance agh:Pl aj 218 [(0,1,false),(1,1,false),(2,1,false)]:=⟨by kernel_rfl⟩
instance adJ:p0 aj 3 1:=⟨by kernel_rfl⟩
instance adK:p0 aj 36 6:=⟨by kernel_rfl⟩
instance adL:p0 aj 98 1:=⟨by kernel_rfl⟩
instance adI:p0 aj 111 4:=⟨by kernel_rfl⟩
structure br where
 Kind:Int
 Text:ByteArray
 N:Int
 fC:Int
 Kids:(List Int)
 c4:Int
 deriving DecidableEq,Inhabited
structure bx where bn:(List br)deriving DecidableEq,Inhabited
structure eI where
 Code:Int
 c4:Int
 deriving DecidableEq,Inhabited
structure cH where
 Kind:Int
 Text:ByteArray
 N:Int
 c4:Int
 deriving DecidableEq,Inhabited
structure oH where
 Func:ByteArray
 Oz:ByteArray
 Oo:cB
 deriving DecidableEq,Inhabited
structure aY where
 eC:bx
 l:(List cH)
 end_:Int
 deriving DecidableEq,Inhabited
structure gu where
 t:bx
 first:(List Int)
 deriving DecidableEq,Inhabited
structure gE where
 Op:Int
 mM:Bool
 deriving DecidableEq,Inhabited
structure nN where
 t:bx
 out:(List Int)
 room:((List (List (ByteArray×Int)))×Nat)
 deriving DecidableEq,Inhabited
structure uo where
 t:bx
 names:(List Int)
 zc:(List Int)
 fn:br
 loops:Int
 leave:Int
 deriving DecidableEq,Inhabited
def dS(x:Int):List U:=[(I x)]
instance:lM dS:=⟨fun x=>rfl⟩
instance:p6 dS:=⟨fun x=>rfl,fun x=>rfl⟩
instance:wS dS dS:=⟨fun x=>rfl⟩
def ct(x:br):List U:=[(I x.Kind),(U.val (.string x.Text)),(I x.N),(I x.fC),(.sl ((x.Kids).map dS)),(I x.c4)]
instance:lM ct:=⟨fun x=>rfl⟩
instance:p6 ct:=⟨fun x=>rfl,fun x=>rfl⟩
instance:wS ct ct:=⟨fun x=>rfl⟩
def e4(x:bx):List U:=[(.sl ((x.bn).map ct))]
def k4(x:eI):List U:=[(I x.Code),(I x.c4)]
def AH(x:Int):List U:=[(U.val (.int .u8 x))]
def AI(x:oH):List U:=[(U.val (.string x.Func)),(U.val (.string x.Oz)),(fe 208 x.Oo)]
def fu(x:cH):List U:=[(I x.Kind),(U.val (.string x.Text)),(I x.N),(I x.c4)]
instance:lM fu:=⟨fun x=>rfl⟩
instance:p6 fu:=⟨fun x=>rfl,fun x=>rfl⟩
instance:wS fu fu:=⟨fun x=>rfl⟩
def cM(x:aY):List U:=[(.own ((x.eC.bn).map ct) (x.eC.bn).length),(.sl ((x.l).map fu)),(I x.end_)]
def uA(x:ByteArray):List U:=[(U.val (.string x))]
def gi(x:bx):List U:=[(.own ((x.bn).map ct) (x.bn).length)]
instance:lM gi:=⟨fun x=>by simp only[gi,Uf,Ug,Uk,Um,Ul,Uj,Ui,Bool.and_true,Bool.and_self,sw]⟩
def r4(x:gu):List U:=[(.sl ((x.t.bn).map ct)),(.own ((x.first).map dS) (x.first).length)]
def IF(x:gE):List U:=[(I x.Op),(B x.mM)]
def mT(x:(List (Option Int))):List U:=[(.sl ((x).map gF))]
theorem AV(x y:Operand){q7 q0:Int}{p1 q1:Int}:cV aj.P .neq 26 x y (.agg ⟨[.int .i64 q7, .int .i64 p1]⟩) (.agg ⟨[.int .i64 q0, .int .i64 q1]⟩)=some (.bool (!((q7==q0)&&((p1==q1)&&true)))):=RO (P:=Tryz.prog) Tryz.underlying26 Tryz.stoodInHeld26 Tryz.eqGuardType26 (by simp[uK,Tryz.underlying3,fits,Cm])
end Go.Ab
