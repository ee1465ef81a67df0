import Derived.Test.YtbbhbdlljfffdaaGreatDoorAbCx
open Bool renaming and_true->AC,and_self->Do
set_option linter.all false
namespace Go.Ab
open Go Go.Proofs
variable[k5]
instance aqr:cY ai 2 (.int .i64):=⟨Tryz.underlying2⟩
instance aqz:cY ai 3 (.int .i64):=⟨Tryz.underlying3⟩
instance apW:cI ai 3 false 1:=⟨by kernel_rfl,by kernel_rfl⟩
instance aru:jQ ai 3 [.val (.int .i64 0)]:=⟨by kernel_rfl⟩
instance arI:k6 ai 3 [.val (.int .i64 0)]:=⟨by kernel_rfl⟩
instance aqB:cY ai 4 .bool:=⟨Tryz.underlying4⟩
instance apZ:cI ai 4 false 1:=⟨by kernel_rfl,by kernel_rfl⟩
instance arL:k6 ai 4 [.val (.bool false)]:=⟨by kernel_rfl⟩
instance aqD:cY ai 5 (.int .u8):=⟨Tryz.underlying5⟩
instance ap1:cI ai 5 false 1:=⟨by kernel_rfl,by kernel_rfl⟩
instance aqG:cY ai 9 .string:=⟨Tryz.underlying9⟩
instance aqb:cI ai 9 false 1:=⟨by kernel_rfl,by kernel_rfl⟩
instance arB:jQ ai 9 [.val (.string ⟨#[]⟩)]:=⟨by kernel_rfl⟩
instance aqy:cY ai 22 (.slice 36):=⟨Tryz.underlying22⟩
instance apT:cI ai 22 false 1:=⟨by kernel_rfl,by kernel_rfl⟩
instance apU:cI ai 24 true 1:=⟨by kernel_rfl,by kernel_rfl⟩
instance ars:jQ ai 24 [.ct]:=⟨by kernel_rfl⟩
instance arG:k6 ai 24 [.own [] 0]:=⟨by kernel_rfl⟩
instance ank:Fd ai 24 0 0 1 false:=⟨by kernel_rfl⟩
instance apj:Pl ai 24 [(0,1,false)]:=⟨by kernel_rfl⟩
instance apV:cI ai 26 true 2:=⟨by kernel_rfl,by kernel_rfl⟩
instance art:jQ ai 26 [.val (.int .i64 0), .val (.int .i64 0)]:=⟨by kernel_rfl⟩
instance arH:k6 ai 26 [.val (.int .i64 0), .val (.int .i64 0)]:=⟨by kernel_rfl⟩
instance anl:Fd ai 26 0 0 1 false:=⟨by kernel_rfl⟩
instance apk:Pl ai 26 [(0,1,false),(1,1,false)]:=⟨by kernel_rfl⟩
instance aqA:cY ai 34 (.slice 3):=⟨Tryz.underlying34⟩
instance apX:cI ai 34 false 1:=⟨by kernel_rfl,by kernel_rfl⟩
instance arJ:k6 ai 34 [.own [] 0]:=⟨by kernel_rfl⟩
instance apY:cI ai 36 true 6:=⟨by kernel_rfl,by kernel_rfl⟩
instance arv:jQ ai 36 [.val (.int .i64 0), .val (.string ⟨#[]⟩), .val (.int .i64 0), .val (.int .i64 0), .ct, .val (.int .i64 0)]:=⟨by kernel_rfl⟩
instance arK:k6 ai 36 [.val (.int .i64 0), .val (.string ⟨#[]⟩), .val (.int .i64 0), .val (.int .i64 0), .own [] 0, .val (.int .i64 0)]:=⟨by kernel_rfl⟩
instance anm:Fd ai 36 0 0 1 false:=⟨by kernel_rfl⟩
instance ann:Fd ai 36 1 1 1 false:=⟨by kernel_rfl⟩
instance ano:Fd ai 36 2 2 1 false:=⟨by kernel_rfl⟩
instance anp:Fd ai 36 3 3 1 false:=⟨by kernel_rfl⟩
instance anq:Fd ai 36 4 4 1 false:=⟨by kernel_rfl⟩
instance anr:Fd ai 36 5 5 1 false:=⟨by kernel_rfl⟩
instance apl:Pl ai 36 [(0,1,false),(1,1,false),(2,1,false),(3,1,false),(4,1,false),(5,1,false)]:=⟨by kernel_rfl⟩
instance aqC:cY ai 41 (.slice 9):=⟨Tryz.underlying41⟩
instance ap0:cI ai 41 false 1:=⟨by kernel_rfl,by kernel_rfl⟩
instance aqE:cY ai 62 (.slice 111):=⟨Tryz.underlying62⟩
instance ap2:cI ai 62 false 1:=⟨by kernel_rfl,by kernel_rfl⟩
instance ap3:cI ai 70 true 1:=⟨by kernel_rfl,by kernel_rfl⟩
instance arw:jQ ai 70 [.ct]:=⟨by kernel_rfl⟩
instance ans:Fd ai 70 0 0 1 false:=⟨by kernel_rfl⟩
instance apm:Pl ai 70 [(0,1,false)]:=⟨by kernel_rfl⟩
instance ap4:cI ai 72 true 3:=⟨by kernel_rfl,by kernel_rfl⟩
instance arx:jQ ai 72 [.ct, .ct, .val (.int .i64 0)]:=⟨by kernel_rfl⟩
instance ant:Fd ai 72 0 0 1 true:=⟨by kernel_rfl⟩
instance anu:Fd ai 72 1 1 1 false:=⟨by kernel_rfl⟩
instance anv:Fd ai 72 2 2 1 false:=⟨by kernel_rfl⟩
instance apn:Pl ai 72 [(0,1,true),(1,1,false),(2,1,false)]:=⟨by kernel_rfl⟩
instance ap5:cI ai 77 true 2:=⟨by kernel_rfl,by kernel_rfl⟩
instance ary:jQ ai 77 [.ct, .ct]:=⟨by kernel_rfl⟩
instance arM:k6 ai 77 [.own [] 0, .own [] 0]:=⟨by kernel_rfl⟩
instance anw:Fd ai 77 0 0 1 true:=⟨by kernel_rfl⟩
instance anx:Fd ai 77 1 1 1 false:=⟨by kernel_rfl⟩
instance apo:Pl ai 77 [(0,1,true),(1,1,false)]:=⟨by kernel_rfl⟩
instance ap6:cI ai 78 false 1:=⟨by kernel_rfl,by kernel_rfl⟩
instance arN:k6 ai 78 [.val .nilFunc]:=⟨by kernel_rfl⟩
instance ap7:cI ai 81 false 1:=⟨by kernel_rfl,by kernel_rfl⟩
instance arO:k6 ai 81 [.val (.pointer none)]:=⟨by kernel_rfl⟩
instance aoW:wM ai 82 .string (pH 0):=⟨by kernel_rfl⟩
instance ap8:cI ai 82 false 1:=⟨by kernel_rfl,by kernel_rfl⟩
instance arz:jQ ai 82 [.val (.map none)]:=⟨by kernel_rfl⟩
instance aqF:cY ai 83 (.slice 82):=⟨Tryz.underlying83⟩
instance ap9:cI ai 83 false 1:=⟨by kernel_rfl,by kernel_rfl⟩
instance aqa:cI ai 85 true 3:=⟨by kernel_rfl,by kernel_rfl⟩
instance arA:jQ ai 85 [.ct, .ct, .ct]:=⟨by kernel_rfl⟩
instance anz:Fd ai 85 0 0 1 true:=⟨by kernel_rfl⟩
instance anA:Fd ai 85 1 1 1 false:=⟨by kernel_rfl⟩
instance anB:Fd ai 85 2 2 1 false:=⟨by kernel_rfl⟩
instance apq:Pl ai 85 [(0,1,true),(1,1,false),(2,1,false)]:=⟨by kernel_rfl⟩
instance aqc:cI ai 90 false 1:=⟨by kernel_rfl,by kernel_rfl⟩
instance arP:k6 ai 90 [.val (.pointer none)]:=⟨by kernel_rfl⟩
instance aqd:cI ai 92 true 11:=⟨by kernel_rfl,by kernel_rfl⟩
instance arC:jQ ai 92 [.ct, .ct, .ct, .val (.int .i64 0), .val (.string ⟨#[]⟩), .val (.int .i64 0), .val (.int .i64 0), .ct, .val (.int .i64 0), .val (.int .i64 0), .val (.int .i64 0)]:=⟨by kernel_rfl⟩
instance anC:Fd ai 92 0 0 1 true:=⟨by kernel_rfl⟩
instance anD:Fd ai 92 1 1 1 false:=⟨by kernel_rfl⟩
instance anE:Fd ai 92 2 2 1 false:=⟨by kernel_rfl⟩
instance anF:Fd ai 92 3 3 6 true:=⟨by kernel_rfl⟩
instance anG:Fd ai 92 4 9 1 false:=⟨by kernel_rfl⟩
instance anH:Fd ai 92 5 10 1 false:=⟨by kernel_rfl⟩
instance apr:Pl ai 92 [(0,1,true),(1,1,false),(2,1,false),(3,6,true),(9,1,false),(10,1,false)]:=⟨by kernel_rfl⟩
instance aqH:cY ai 95 (.slice 98):=⟨Tryz.underlying95⟩
instance aqe:cI ai 95 false 1:=⟨by kernel_rfl,by kernel_rfl⟩
instance arQ:k6 ai 95 [.own [] 0]:=⟨by kernel_rfl⟩
instance aqf:cI ai 97 false 1:=⟨by kernel_rfl,by kernel_rfl⟩
instance arR:k6 ai 97 [.val (.pointer none)]:=⟨by kernel_rfl⟩
instance aqI:cY ai 98 (.pointer 3):=⟨Tryz.underlying98⟩
instance aqg:cI ai 98 false 1:=⟨by kernel_rfl,by kernel_rfl⟩
instance arS:k6 ai 98 [.val (.pointer none)]:=⟨by kernel_rfl⟩
instance aoV:wM ai 101 (.int .i64) (BB false):=⟨by kernel_rfl⟩
instance apM:cI ai 101 false 1:=⟨by kernel_rfl,by kernel_rfl⟩
instance arD:k6 ai 101 [.val (.map none)]:=⟨by kernel_rfl⟩
instance aqo:cY ai 103 (.interface #[("Error",237)]):=⟨Tryz.underlying103⟩
instance apN:cI ai 103 false 1:=⟨by kernel_rfl,by kernel_rfl⟩
instance arn:jQ ai 106 [.val (.int .i64 0), .val (.int .i64 0)]:=⟨by kernel_rfl⟩
instance apf:Pl ai 106 [(0,2,true)]:=⟨by kernel_rfl⟩
instance apO:cI ai 111 true 4:=⟨by kernel_rfl,by kernel_rfl⟩
instance aro:jQ ai 111 [.val (.int .i64 0), .val (.string ⟨#[]⟩), .val (.int .i64 0), .val (.int .i64 0)]:=⟨by kernel_rfl⟩
instance arE:k6 ai 111 [.val (.int .i64 0), .val (.string ⟨#[]⟩), .val (.int .i64 0), .val (.int .i64 0)]:=⟨by kernel_rfl⟩
instance ane:Fd ai 111 0 0 1 false:=⟨by kernel_rfl⟩
instance anf:Fd ai 111 1 1 1 false:=⟨by kernel_rfl⟩
instance ang:Fd ai 111 2 2 1 false:=⟨by kernel_rfl⟩
instance anh:Fd ai 111 3 3 1 false:=⟨by kernel_rfl⟩
instance apg:Pl ai 111 [(0,1,false),(1,1,false),(2,1,false),(3,1,false)]:=⟨by kernel_rfl⟩
instance apP:cI ai 144 true 2:=⟨by kernel_rfl,by kernel_rfl⟩
instance arp:jQ ai 144 [.val (.int .i64 0), .val (.bool false)]:=⟨by kernel_rfl⟩
instance arF:k6 ai 144 [.val (.int .i64 0), .val (.bool false)]:=⟨by kernel_rfl⟩
instance ani:Fd ai 144 0 0 1 false:=⟨by kernel_rfl⟩
instance anj:Fd ai 144 1 1 1 false:=⟨by kernel_rfl⟩
instance aph:Pl ai 144 [(0,1,false),(1,1,false)]:=⟨by kernel_rfl⟩
instance aqp:cY ai 161 (.array 10 41):=⟨Tryz.underlying161⟩
instance aqq:cY ai 196 (.array 13 9):=⟨Tryz.underlying196⟩
instance apQ:cI ai 196 true 13:=⟨by kernel_rfl,by kernel_rfl⟩
instance aqs:cY ai 201 (.array 43 9):=⟨Tryz.underlying201⟩
instance apR:cI ai 201 true 43:=⟨by kernel_rfl,by kernel_rfl⟩
instance aqt:cY ai 203 (.int .u64):=⟨Tryz.underlying203⟩
instance aqu:cY ai 208 (.int .i64):=⟨Tryz.underlying208⟩
instance amU:ET ai 208:=⟨by kernel_rfl⟩
instance aqv:cY ai 209 (.int .u64):=⟨Tryz.underlying209⟩
instance aqw:cY ai 212 (.pointer 218):=⟨Tryz.underlying212⟩
instance aqx:cY ai 216 (.slice 5):=⟨Tryz.underlying216⟩
instance apS:cI ai 218 true 3:=⟨by kernel_rfl,by kernel_rfl⟩
instance arq:jQ ai 218 [.val (.string ⟨#[]⟩), .val (.string ⟨#[]⟩), .val .nilIface]:=⟨by kernel_rfl⟩
instance api:Pl ai 218 [(0,1,false),(1,1,false),(2,1,false)]:=⟨by kernel_rfl⟩
instance amD:rJ ai 3 1:=⟨by kernel_rfl⟩
instance amE:rJ ai 36 6:=⟨by kernel_rfl⟩
instance amF:rJ ai 82 1:=⟨by kernel_rfl⟩
instance amG:rJ ai 98 1:=⟨by kernel_rfl⟩
instance amC:rJ ai 111 4:=⟨by kernel_rfl⟩
structure aM where
 Kind:Int
 Text:ByteArray
 N:Int
 ff:Int
 Kids:(List Int)
 bH:Int
 deriving DecidableEq,Inhabited
structure bz where aS:(List aM)deriving DecidableEq,Inhabited
structure aO where
 Code:Int
 bH:Int
 deriving DecidableEq,Inhabited
structure dD where
 Kind:Int
 Text:ByteArray
 N:Int
 bH:Int
 deriving DecidableEq,Inhabited
structure s8 where
 Func:ByteArray
 Wl:ByteArray
 Wb:dn
 deriving DecidableEq,Inhabited
structure bN where
 fS:bz
 l:(List dD)
 end_:Int
 deriving DecidableEq,Inhabited
structure ju where
 t:bz
 first:(List Int)
 deriving DecidableEq,Inhabited
structure jP where
 Op:Int
 qM:Bool
 deriving DecidableEq,Inhabited
structure ax where
 t:bz
 out:(List Int)
 room:((List (List (ByteArray×Int)))×Nat)
 deriving DecidableEq,Inhabited
structure bO where
 t:bz
 names:(List Int)
 bg:(List Int)
 fn:aM
 loops:Int
 leave:Int
 deriving DecidableEq,Inhabited
def b5(x:Int):List U:=[(I x)]
instance:iU b5:=⟨fun x=>rfl⟩
instance:qH b5:=⟨fun x=>rfl,fun x=>rfl⟩
instance:BP b5 b5:=⟨fun x=>rfl⟩
def bX(x:aM):List U:=[(I x.Kind),(U.val (.string x.Text)),(I x.N),(I x.ff),(.sl ((x.Kids).map b5)),(I x.bH)]
instance:iU bX:=⟨fun x=>rfl⟩
instance:qH bX:=⟨fun x=>rfl,fun x=>rfl⟩
instance:BP bX bX:=⟨fun x=>rfl⟩
def eM(x:bz):List U:=[(.sl ((x.aS).map bX))]
def eB(x:aO):List U:=[(I x.Code),(I x.bH)]
def FH(x:Int):List U:=[(U.val (.int .u8 x))]
def FI(x:s8):List U:=[(U.val (.string x.Func)),(U.val (.string x.Wl)),(gH 208 x.Wb)]
def gS(x:dD):List U:=[(I x.Kind),(U.val (.string x.Text)),(I x.N),(I x.bH)]
instance:iU gS:=⟨fun x=>rfl⟩
instance:qH gS:=⟨fun x=>rfl,fun x=>rfl⟩
instance:BP gS gS:=⟨fun x=>rfl⟩
def dK(x:bN):List U:=[(.own ((x.fS.aS).map bX) (x.fS.aS).length),(.sl ((x.l).map gS)),(I x.end_)]
def zE(x:ByteArray):List U:=[(U.val (.string x))]
def iY(x:bz):List U:=[(.own ((x.aS).map bX) (x.aS).length)]
instance:iU iY:=⟨fun x=>by simp only[iY,Ga,Gb,Gg,Gi,Gh,Gf,Ge,AC,Do,p7]⟩
def w4(x:ju):List U:=[(.sl ((x.t.aS).map bX)),(.own ((x.first).map b5) (x.first).length)]
def Py(x:jP):List U:=[(I x.Op),(B x.qM)]
def lS(x:(List (Option Int))):List U:=[(.sl ((x).map jR))]
def JC(x:(List (ByteArray×Int))):List U:=[(.im ((x).map (mQ y6 pH)))]
def Cp(x:(List (ByteArray×Int))):List U:=[(.ef ((x).map (mQ y6 pH)))]
instance:iU Cp:=⟨fun x=>by simp only[Cp,Ga,Gb,Gg,Gi,Gh,Gf,Ge,AC,Do,p7]⟩
instance:zb Cp JC:=⟨fun L n x=>by simp only[Cp,JC];exact aab,fun x=>rfl⟩
def Jr(x:ax):List U:=[(.sl ((x.t.aS).map bX)),(.sl ((x.out).map b5)),(.sl (((List.take x.room.2 x.room.1)).map JC))]
def dS(x:ax):List U:=[(.sl ((x.t.aS).map bX)),(.own ((x.out).map b5) (x.out).length),(.own ((x.room).1.map Cp) (x.room).2)]
instance:iU dS:=⟨fun x=>by simp only[dS,Ga,Gb,Gg,Gi,Gh,Gf,Ge,AC,Do,p7]⟩
def lQ(x:bO):List U:=[(.sl ((x.t.aS).map bX)),(.sl ((x.names).map b5)),(.sl ((x.bg).map b5)),(I x.fn.Kind),(U.val (.string x.fn.Text)),(I x.fn.N),(I x.fn.ff),(.sl ((x.fn.Kids).map b5)),(I x.fn.bH),(I x.loops),(I x.leave)]
def oK(x:bO):List U:=[(.sl ((x.t.aS).map bX)),(.sl ((x.names).map b5)),(.own ((x.bg).map b5) (x.bg).length),(I x.fn.Kind),(U.val (.string x.fn.Text)),(I x.fn.N),(I x.fn.ff),(.sl ((x.fn.Kids).map b5)),(I x.fn.bH),(I x.loops),(I x.leave)]
instance:iU oK:=⟨fun x=>by simp only[oK,Ga,Gb,Gg,Gi,Gh,Gf,Ge,AC,Do,p7]⟩
theorem p4(x y:Operand){qx q0:Int}{p1 q1:Int}:dY ai.P .neq 26 x y (.agg ⟨[.int .i64 qx, .int .i64 p1]⟩) (.agg ⟨[.int .i64 q0, .int .i64 q1]⟩)=some (.bool (!((qx==q0)&&((p1==q1)&&true)))):=ZJ (P:=Tryz.prog) Tryz.underlying26 Tryz.stoodInHeld26 Tryz.eqGuardType26 (by simp[zS,Tryz.underlying3,fits,Ii])
end Go.Ab
namespace Go.Ab
open Go Go.Proofs
variable[k5]
def MB(B:Nat)(x:aM):Prop:=(fun n:Int=>(Lit.int .i64 n).wf=true) x.Kind∧(fun s:ByteArray=>s.size<=B) x.Text∧(fun n:Int=>(Lit.int .i64 n).wf=true) x.N∧(fun n:Int=>(Lit.int .i64 n).wf=true) x.ff∧(fun l:(List Int)=>l.length<=B∧∀x∈l,(fun n:Int=>(Lit.int .i64 n).wf=true) x) x.Kids∧(fun n:Int=>(Lit.int .i64 n).wf=true) x.bH
theorem abu{B:Nat}:∀cells,iW ai.P B 36 cells->∃x:aM,cells=bX x∧MB B x:=by intro cells h;have h0:=Qc Tryz.underlying36 h;clear h;obtain⟨a0,b0,e0,g0,h1⟩:=xh h0;obtain⟨x0,k0,o0⟩:=(Cq Tryz.underlying3 g0);obtain⟨a1,b1,e1,g1,h2⟩:=xh h1;obtain⟨x1,k1,o1⟩:=(abw Tryz.underlying9 g1);obtain⟨a2,b2,e2,g2,h3⟩:=xh h2;obtain⟨x2,k2,o2⟩:=(Cq Tryz.underlying3 g2);obtain⟨a3,b3,bF,g3,h4⟩:=xh h3;obtain⟨x3,cO,Tp⟩:=(Cq Tryz.underlying3 g3);obtain⟨a4,b4,fh,g4,h5⟩:=xh h4;obtain⟨aN,gb,ahP⟩:=(Qf (c:=b5) (ok:=(fun n:Int=>(Lit.int .i64 n).wf=true)) Tryz.underlying34 (fun cs(h:iW Tryz.prog B 3 cs)=>(Cq Tryz.underlying3 h)) g4);obtain⟨a5,pT,xl,g5,h6⟩:=xh h5;obtain⟨aW,kR,ahQ⟩:=(Cq Tryz.underlying3 g5);have rf:=Qd h6;subst rf;rw[kR]at xl;subst xl;rw[gb]at fh;subst fh;rw[cO]at bF;subst bF;rw[k2]at e2;subst e2;rw[k1]at e1;subst e1;rw[k0]at e0;subst e0;exact⟨⟨x0,x1,x2,x3,aN,aW⟩,rfl,o0,o1,o2,Tp,ahP,ahQ⟩
def TM(B:Nat)(x:bz):Prop:=(fun l:(List aM)=>l.length<=B∧∀x∈l,(MB B) x) x.aS
theorem abv{B:Nat}:∀cells,iW ai.P B 24 cells->∃x:bz,cells=eM x∧TM B x:=by intro cells h;have h0:=Qc Tryz.underlying24 h;clear h;obtain⟨a0,b0,e0,g0,h1⟩:=xh h0;obtain⟨x0,k0,o0⟩:=(Qf (c:=bX) (ok:=(MB B)) Tryz.underlying22 (fun cs(h:iW Tryz.prog B 36 cs)=>(abu _ h)) g0);have rf:=Qd h1;subst rf;rw[k0]at e0;subst e0;exact⟨⟨x0⟩,rfl,o0⟩
end Go.Ab
