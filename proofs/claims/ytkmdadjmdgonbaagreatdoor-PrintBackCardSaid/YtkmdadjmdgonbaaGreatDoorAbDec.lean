import Derived.Test.YtkmdadjmdgonbaaGreatDoorAbCx
open Bool renaming true->bv,false->ci
open Option renaming some->ac,none->am
set_option linter.all false
namespace Go.Ab
open Go Go.Proofs
variable[lg]
instance ars:eM ak 2 (.int .i64):=⟨Tryz.underlying2⟩
instance aru:eM ak 3 (.int .i64):=⟨Tryz.underlying3⟩
instance aqW:ek ak 3 ci 1:=⟨by kernel_rfl,by kernel_rfl⟩
instance asl:lz ak 3 [.val (.int .i64 0)]:=⟨by kernel_rfl⟩
instance asw:uk ak 3 [.val (.int .i64 0)]:=⟨by kernel_rfl⟩
instance arx:eM ak 5 (.int .u8):=⟨Tryz.underlying5⟩
instance aq1:ek ak 5 ci 1:=⟨by kernel_rfl,by kernel_rfl⟩
instance arA:eM ak 9 .string:=⟨Tryz.underlying9⟩
instance aq8:ek ak 9 ci 1:=⟨by kernel_rfl,by kernel_rfl⟩
instance asr:lz ak 9 [.val (.string ⟨#[]⟩)]:=⟨by kernel_rfl⟩
instance art:eM ak 22 (.slice 38):=⟨Tryz.underlying22⟩
instance aqT:ek ak 22 ci 1:=⟨by kernel_rfl,by kernel_rfl⟩
instance aqU:ek ak 24 bv 1:=⟨by kernel_rfl,by kernel_rfl⟩
instance asi:lz ak 24 [.cg]:=⟨by kernel_rfl⟩
instance asu:uk ak 24 [.own [] 0]:=⟨by kernel_rfl⟩
instance an6:Fd ak 24 0 0 1 false:=⟨by kernel_rfl⟩
instance aqo:Pl ak 24 [(0,1,ci)]:=⟨by kernel_rfl⟩
instance aqV:ek ak 26 bv 2:=⟨by kernel_rfl,by kernel_rfl⟩
instance asj:lz ak 26 [.val (.int .i64 0), .val (.int .i64 0)]:=⟨by kernel_rfl⟩
instance asv:uk ak 26 [.val (.int .i64 0), .val (.int .i64 0)]:=⟨by kernel_rfl⟩
instance an7:Fd ak 26 0 0 1 false:=⟨by kernel_rfl⟩
instance aqp:Pl ak 26 [(0,1,ci),(1,1,ci)]:=⟨by kernel_rfl⟩
instance arv:eM ak 36 (.slice 3):=⟨Tryz.underlying36⟩
instance aqX:ek ak 36 ci 1:=⟨by kernel_rfl,by kernel_rfl⟩
instance aqY:ek ak 38 bv 6:=⟨by kernel_rfl,by kernel_rfl⟩
instance asm:lz ak 38 [.val (.int .i64 0), .val (.string ⟨#[]⟩), .val (.int .i64 0), .val (.int .i64 0), .cg, .val (.int .i64 0)]:=⟨by kernel_rfl⟩
instance asx:uk ak 38 [.val (.int .i64 0), .val (.string ⟨#[]⟩), .val (.int .i64 0), .val (.int .i64 0), .own [] 0, .val (.int .i64 0)]:=⟨by kernel_rfl⟩
instance an8:Fd ak 38 0 0 1 false:=⟨by kernel_rfl⟩
instance an9:Fd ak 38 1 1 1 false:=⟨by kernel_rfl⟩
instance aoa:Fd ak 38 2 2 1 false:=⟨by kernel_rfl⟩
instance aob:Fd ak 38 3 3 1 false:=⟨by kernel_rfl⟩
instance aoc:Fd ak 38 4 4 1 false:=⟨by kernel_rfl⟩
instance aod:Fd ak 38 5 5 1 false:=⟨by kernel_rfl⟩
instance aqq:Pl ak 38 [(0,1,ci),(1,1,ci),(2,1,ci),(3,1,ci),(4,1,ci),(5,1,ci)]:=⟨by kernel_rfl⟩
instance arw:eM ak 43 (.slice 54):=⟨Tryz.underlying43⟩
instance aqZ:ek ak 43 ci 1:=⟨by kernel_rfl,by kernel_rfl⟩
instance aq0:ek ak 45 bv 2:=⟨by kernel_rfl,by kernel_rfl⟩
instance asn:lz ak 45 [.cg, .cg]:=⟨by kernel_rfl⟩
instance aoe:Fd ak 45 0 0 1 true:=⟨by kernel_rfl⟩
instance aof:Fd ak 45 1 1 1 false:=⟨by kernel_rfl⟩
instance aqr:Pl ak 45 [(0,1,bv),(1,1,ci)]:=⟨by kernel_rfl⟩
instance aq2:ek ak 54 bv 4:=⟨by kernel_rfl,by kernel_rfl⟩
instance aso:lz ak 54 [.val (.int .i64 0), .val (.string ⟨#[]⟩), .val (.int .i64 0), .val (.int .i64 0)]:=⟨by kernel_rfl⟩
instance asy:uk ak 54 [.val (.int .i64 0), .val (.string ⟨#[]⟩), .val (.int .i64 0), .val (.int .i64 0)]:=⟨by kernel_rfl⟩
instance aog:Fd ak 54 0 0 1 false:=⟨by kernel_rfl⟩
instance aoh:Fd ak 54 1 1 1 false:=⟨by kernel_rfl⟩
instance aoi:Fd ak 54 2 2 1 false:=⟨by kernel_rfl⟩
instance aoj:Fd ak 54 3 3 1 false:=⟨by kernel_rfl⟩
instance aqs:Pl ak 54 [(0,1,ci),(1,1,ci),(2,1,ci),(3,1,ci)]:=⟨by kernel_rfl⟩
instance aq3:ek ak 56 ci 1:=⟨by kernel_rfl,by kernel_rfl⟩
instance aok:Fd ak 57 0 0 1 false:=⟨by kernel_rfl⟩
instance aq4:ek ak 59 bv 3:=⟨by kernel_rfl,by kernel_rfl⟩
instance asp:lz ak 59 [.cg, .cg, .val (.int .i64 0)]:=⟨by kernel_rfl⟩
instance aol:Fd ak 59 0 0 1 true:=⟨by kernel_rfl⟩
instance aom:Fd ak 59 1 1 1 false:=⟨by kernel_rfl⟩
instance aon:Fd ak 59 2 2 1 false:=⟨by kernel_rfl⟩
instance aqt:Pl ak 59 [(0,1,bv),(1,1,ci),(2,1,ci)]:=⟨by kernel_rfl⟩
instance aq5:ek ak 67 bv 2:=⟨by kernel_rfl,by kernel_rfl⟩
instance asq:lz ak 67 [.cg, .cg]:=⟨by kernel_rfl⟩
instance asz:uk ak 67 [.own [] 0, .own [] 0]:=⟨by kernel_rfl⟩
instance aoo:Fd ak 67 0 0 1 true:=⟨by kernel_rfl⟩
instance aop:Fd ak 67 1 1 1 false:=⟨by kernel_rfl⟩
instance aqu:Pl ak 67 [(0,1,bv),(1,1,ci)]:=⟨by kernel_rfl⟩
instance ary:eM ak 74 (.slice 9):=⟨Tryz.underlying74⟩
instance aq6:ek ak 74 ci 1:=⟨by kernel_rfl,by kernel_rfl⟩
instance arz:eM ak 89 (.interface #[("Error",111)]):=⟨Tryz.underlying89⟩
instance aq7:ek ak 89 ci 1:=⟨by kernel_rfl,by kernel_rfl⟩
instance ass:lz ak 92 [.val (.int .i64 0), .val (.int .i64 0)]:=⟨by kernel_rfl⟩
instance aqv:Pl ak 92 [(0,2,bv)]:=⟨by kernel_rfl⟩
instance ari:eM ak 106 (.slice 5):=⟨Tryz.underlying106⟩
instance arj:eM ak 130 (.array 10 74):=⟨Tryz.underlying130⟩
instance asf:lz ak 130 [.cg, .cg, .cg, .cg, .cg, .cg, .cg, .cg, .cg, .cg]:=⟨by kernel_rfl⟩
instance aql:Pl ak 130 [(0,1,ci),(1,1,ci),(2,1,ci),(3,1,ci),(4,1,ci),(5,1,ci),(6,1,ci),(7,1,ci),(8,1,ci),(9,1,ci)]:=⟨by kernel_rfl⟩
instance aqP:ek ak 132 bv 2:=⟨by kernel_rfl,by kernel_rfl⟩
instance asg:lz ak 132 [.val (.int .i64 0), .val (.bool ci)]:=⟨by kernel_rfl⟩
instance ast:uk ak 132 [.val (.int .i64 0), .val (.bool ci)]:=⟨by kernel_rfl⟩
instance an5:Fd ak 132 0 0 1 false:=⟨by kernel_rfl⟩
instance aqm:Pl ak 132 [(0,1,ci),(1,1,ci)]:=⟨by kernel_rfl⟩
instance ark:eM ak 161 (.array 13 9):=⟨Tryz.underlying161⟩
instance aqQ:ek ak 161 bv 13:=⟨by kernel_rfl,by kernel_rfl⟩
instance arl:eM ak 166 (.array 43 9):=⟨Tryz.underlying166⟩
instance aqR:ek ak 166 bv 43:=⟨by kernel_rfl,by kernel_rfl⟩
instance arn:eM ak 172 (.int .u64):=⟨Tryz.underlying172⟩
instance aro:eM ak 174 (.int .u64):=⟨Tryz.underlying174⟩
instance arp:eM ak 179 (.int .i64):=⟨Tryz.underlying179⟩
instance anN:F6 ak 179:=⟨by kernel_rfl⟩
instance arq:eM ak 182 (.pointer 193):=⟨Tryz.underlying182⟩
instance aqS:ek ak 193 bv 3:=⟨by kernel_rfl,by kernel_rfl⟩
instance ash:lz ak 193 [.val (.string ⟨#[]⟩), .val (.string ⟨#[]⟩), .val .nilIface]:=⟨by kernel_rfl⟩
instance aqn:Pl ak 193 [(0,1,ci),(1,1,ci),(2,1,ci)]:=⟨by kernel_rfl⟩
instance anh:tT ak 3 1:=⟨by kernel_rfl⟩
instance ank:tT ak 9 1:=⟨by kernel_rfl⟩
instance ani:tT ak 38 6:=⟨by kernel_rfl⟩
instance anj:tT ak 54 4:=⟨by kernel_rfl⟩
instance apE:Jj ak 92:=⟨by kernel_rfl⟩
structure az where
 Kind:Int
 Text:ByteArray
 N:Int
 e9:Int
 Kids:(List Int)
 bI:Int
 deriving DecidableEq,Inhabited
structure bX where aJ:(List az)deriving DecidableEq,Inhabited
structure dX where
 Code:Int
 bI:Int
 deriving DecidableEq,Inhabited
structure uj where
 t:bX
 first:(List Int)
 deriving DecidableEq,Inhabited
structure kN where
 Op:Int
 Zt:Bool
 deriving DecidableEq,Inhabited
structure aO where
 Kind:Int
 Text:ByteArray
 N:Int
 bI:Int
 deriving DecidableEq,Inhabited
structure bz where
 t:bX
 out:(List aO)
 deriving DecidableEq,Inhabited
structure uh where
 Func:ByteArray
 Wi:ByteArray
 Wa:cB
 deriving DecidableEq,Inhabited
structure aj where
 bP:bX
 l:(List aO)
 end_:Int
 deriving DecidableEq,Inhabited
structure Gv where Om:dX deriving DecidableEq,Inhabited
def cn(x:Int):List U:=[(I x)]
instance:oT cn:=⟨λx=>rfl⟩
instance:tW cn:=⟨λx=>rfl,λx=>rfl⟩
instance:Gb cn cn:=⟨λx=>rfl⟩
def b8(x:az):List U:=[(I x.Kind),(U.val (.string x.Text)),(I x.N),(I x.e9),(.sl ((x.Kids).map cn)),(I x.bI)]
instance:oT b8:=⟨λx=>rfl⟩
instance:tW b8:=⟨λx=>rfl,λx=>rfl⟩
instance:Gb b8 b8:=⟨λx=>rfl⟩
def p5(x:bX):List U:=[(.sl ((x.aJ).map b8))]
def kf(x:dX):List U:=[(I x.Code),(I x.bI)]
def aaN(x:kN):List U:=[(I x.Op),(B x.Zt)]
def nk(x:ByteArray):List U:=[(U.val (.string x))]
instance:oT nk:=⟨λx=>rfl⟩
instance:tW nk:=⟨λx=>rfl,λx=>rfl⟩
def Qj(x:uj):List U:=[(.sl ((x.t.aJ).map b8)),(.own ((x.first).map cn) (x.first).length)]
def cZ(x:aO):List U:=[(I x.Kind),(U.val (.string x.Text)),(I x.N),(I x.bI)]
instance:oT cZ:=⟨λx=>rfl⟩
instance:tW cZ:=⟨λx=>rfl,λx=>rfl⟩
instance:Gb cZ cZ:=⟨λx=>rfl⟩
def ep(x:bz):List U:=[(.sl ((x.t.aJ).map b8)),(.own ((x.out).map cZ) (x.out).length)]
def GJ(x:Int):List U:=[(U.val (.int .u8 x))]
def GK(x:uh):List U:=[(U.val (.string x.Func)),(U.val (.string x.Wi)),(iw 179 x.Wa)]
def aZ(x:aj):List U:=[(.own ((x.bP.aJ).map b8) (x.bP.aJ).length),(.sl ((x.l).map cZ)),(I x.end_)]
def qW(x:bX):List U:=[(.own ((x.aJ).map b8) (x.aJ).length)]
instance:oT qW:=⟨λx=>by simp only[qW,ac2,ac3,ac7,ac9,ac8,ac6,ac5,Bool.and_true,Bool.and_self,wh]⟩
abbrev Ff(x:Gv):Value:= .iface 92 (.agg ⟨[.int .i64 x.Om.Code, .int .i64 x.Om.bI]⟩)
theorem AM(x y:Operand){gy q0:Int}{p1 q1:Int}:fC ak.P .neq 26 x y (.agg ⟨[.int .i64 gy, .int .i64 p1]⟩) (.agg ⟨[.int .i64 q0, .int .i64 q1]⟩)=ac (.bool (!((gy==q0)&&((p1==q1)&&bv)))):=aac (P:=Tryz.prog) Tryz.underlying26 Tryz.stoodInHeld26 Tryz.eqGuardType26 (by simp[AN,Tryz.underlying3,fits,IJ])
end Go.Ab
namespace Go.Ab
open Go Go.Proofs
variable[lg]
def Nf(B:Nat)(x:az):Prop:=(λn:Int=>(Lit.int .i64 n).wf=bv) x.Kind∧(λs:ByteArray=>s.size<=B) x.Text∧(λn:Int=>(Lit.int .i64 n).wf=bv) x.N∧(λn:Int=>(Lit.int .i64 n).wf=bv) x.e9∧(λl:(List Int)=>l.length<=B∧∀x∈l,(λn:Int=>(Lit.int .i64 n).wf=bv) x) x.Kids∧(λn:Int=>(Lit.int .i64 n).wf=bv) x.bI
theorem abZ{B:Nat}:∀cells,jE ak.P B 38 cells->∃x:az,cells=b8 x∧Nf B x:=by intro cells h;have h0:=QU Tryz.underlying38 h;clear h;obtain⟨a0,b0,e0,g0,h1⟩:=yg h0;obtain⟨x0,k0,o0⟩:=(Dp Tryz.underlying3 g0);obtain⟨a1,b1,e1,g1,h2⟩:=yg h1;obtain⟨x1,k1,o1⟩:=(ab2 Tryz.underlying9 g1);obtain⟨a2,b2,e2,g2,h3⟩:=yg h2;obtain⟨x2,k2,o2⟩:=(Dp Tryz.underlying3 g2);obtain⟨a3,b3,bn,g3,h4⟩:=yg h3;obtain⟨x3,dZ,Ia⟩:=(Dp Tryz.underlying3 g3);obtain⟨a4,b4,c4,g4,h5⟩:=yg h4;obtain⟨aL,jY,ahK⟩:=(QX (c:=cn) (ok:=(λn:Int=>(Lit.int .i64 n).wf=bv)) Tryz.underlying36 (λcs(h:jE Tryz.prog B 3 cs)=>(Dp Tryz.underlying3 h)) g4);obtain⟨a5,x7,fU,g5,h6⟩:=yg h5;obtain⟨aR,mK,ahL⟩:=(Dp Tryz.underlying3 g5);have Mo:=QV h6;subst Mo;rw[mK]at fU;subst fU;rw[jY]at c4;subst c4;rw[dZ]at bn;subst bn;rw[k2]at e2;subst e2;rw[k1]at e1;subst e1;rw[k0]at e0;subst e0;exact⟨⟨x0,x1,x2,x3,aL,aR⟩,rfl,o0,o1,o2,Ia,ahK,ahL⟩
def Ng(B:Nat)(x:bX):Prop:=(λl:(List az)=>l.length<=B∧∀x∈l,(Nf B) x) x.aJ
theorem ab0{B:Nat}:∀cells,jE ak.P B 24 cells->∃x:bX,cells=p5 x∧Ng B x:=by intro cells h;have h0:=QU Tryz.underlying24 h;clear h;obtain⟨a0,b0,e0,g0,h1⟩:=yg h0;obtain⟨x0,k0,o0⟩:=(QX (c:=b8) (ok:=(Nf B)) Tryz.underlying22 (λcs(h:jE Tryz.prog B 38 cs)=>(abZ _ h)) g0);have Mo:=QV h1;subst Mo;rw[k0]at e0;subst e0;exact⟨⟨x0⟩,rfl,o0⟩
end Go.Ab
