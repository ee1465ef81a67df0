import Derived.Test.YtkmdadjmdgonbaaGreatDoorAbCx
set_option linter.all false
namespace Go.Ab
open Go Go.Proofs
variable[kY]
instance amJ:eJ av 2 (.int .i64):=⟨Tryz.underlying2⟩
instance amL:eJ av 3 (.int .i64):=⟨Tryz.underlying3⟩
instance amg:ew av 3 false 1:=⟨by kernel_rfl,by kernel_rfl⟩
instance anM:um av 3 [.val (.int .i64 0)]:=⟨by kernel_rfl⟩
instance amO:eJ av 5 (.int .u8):=⟨Tryz.underlying5⟩
instance aml:ew av 5 false 1:=⟨by kernel_rfl,by kernel_rfl⟩
instance amR:eJ av 9 .string:=⟨Tryz.underlying9⟩
instance amr:ew av 9 false 1:=⟨by kernel_rfl,by kernel_rfl⟩
instance anJ:qc av 9 [.val (.string ⟨#[]⟩)]:=⟨by kernel_rfl⟩
instance amK:eJ av 22 (.slice 38):=⟨Tryz.underlying22⟩
instance amd:ew av 22 false 1:=⟨by kernel_rfl,by kernel_rfl⟩
instance ame:ew av 24 true 1:=⟨by kernel_rfl,by kernel_rfl⟩
instance ajo:Fd av 24 0 0 1 false:=⟨by kernel_rfl⟩
instance amf:ew av 26 true 2:=⟨by kernel_rfl,by kernel_rfl⟩
instance anE:qc av 26 [.val (.int .i64 0), .val (.int .i64 0)]:=⟨by kernel_rfl⟩
instance anL:um av 26 [.val (.int .i64 0), .val (.int .i64 0)]:=⟨by kernel_rfl⟩
instance ajp:Fd av 26 0 0 1 false:=⟨by kernel_rfl⟩
instance alG:Pl av 26 [(0,1,false),(1,1,false)]:=⟨by kernel_rfl⟩
instance amM:eJ av 36 (.slice 3):=⟨Tryz.underlying36⟩
instance amh:ew av 36 false 1:=⟨by kernel_rfl,by kernel_rfl⟩
instance ami:ew av 38 true 6:=⟨by kernel_rfl,by kernel_rfl⟩
instance anN:um av 38 [.val (.int .i64 0), .val (.string ⟨#[]⟩), .val (.int .i64 0), .val (.int .i64 0), .own [] 0, .val (.int .i64 0)]:=⟨by kernel_rfl⟩
instance ajq:Fd av 38 0 0 1 false:=⟨by kernel_rfl⟩
instance ajr:Fd av 38 1 1 1 false:=⟨by kernel_rfl⟩
instance ajs:Fd av 38 2 2 1 false:=⟨by kernel_rfl⟩
instance ajt:Fd av 38 3 3 1 false:=⟨by kernel_rfl⟩
instance aju:Fd av 38 4 4 1 false:=⟨by kernel_rfl⟩
instance ajv:Fd av 38 5 5 1 false:=⟨by kernel_rfl⟩
instance amN:eJ av 43 (.slice 54):=⟨Tryz.underlying43⟩
instance amj:ew av 43 false 1:=⟨by kernel_rfl,by kernel_rfl⟩
instance amk:ew av 45 true 2:=⟨by kernel_rfl,by kernel_rfl⟩
instance anF:qc av 45 [.cG, .cG]:=⟨by kernel_rfl⟩
instance ajw:Fd av 45 0 0 1 true:=⟨by kernel_rfl⟩
instance ajx:Fd av 45 1 1 1 false:=⟨by kernel_rfl⟩
instance alH:Pl av 45 [(0,1,true),(1,1,false)]:=⟨by kernel_rfl⟩
instance amm:ew av 54 true 4:=⟨by kernel_rfl,by kernel_rfl⟩
instance anG:qc av 54 [.val (.int .i64 0), .val (.string ⟨#[]⟩), .val (.int .i64 0), .val (.int .i64 0)]:=⟨by kernel_rfl⟩
instance anO:um av 54 [.val (.int .i64 0), .val (.string ⟨#[]⟩), .val (.int .i64 0), .val (.int .i64 0)]:=⟨by kernel_rfl⟩
instance ajy:Fd av 54 0 0 1 false:=⟨by kernel_rfl⟩
instance ajz:Fd av 54 1 1 1 false:=⟨by kernel_rfl⟩
instance ajA:Fd av 54 2 2 1 false:=⟨by kernel_rfl⟩
instance ajB:Fd av 54 3 3 1 false:=⟨by kernel_rfl⟩
instance alI:Pl av 54 [(0,1,false),(1,1,false),(2,1,false),(3,1,false)]:=⟨by kernel_rfl⟩
instance amn:ew av 67 true 2:=⟨by kernel_rfl,by kernel_rfl⟩
instance anH:qc av 67 [.cG, .cG]:=⟨by kernel_rfl⟩
instance anP:um av 67 [.own [] 0, .own [] 0]:=⟨by kernel_rfl⟩
instance ajC:Fd av 67 0 0 1 true:=⟨by kernel_rfl⟩
instance ajD:Fd av 67 1 1 1 false:=⟨by kernel_rfl⟩
instance alJ:Pl av 67 [(0,1,true),(1,1,false)]:=⟨by kernel_rfl⟩
instance amP:eJ av 74 (.slice 9):=⟨Tryz.underlying74⟩
instance amo:ew av 74 false 1:=⟨by kernel_rfl,by kernel_rfl⟩
instance anI:qc av 74 [.cG]:=⟨by kernel_rfl⟩
instance amQ:eJ av 89 (.interface #[("Error",111)]):=⟨Tryz.underlying89⟩
instance amq:ew av 89 false 1:=⟨by kernel_rfl,by kernel_rfl⟩
instance amA:eJ av 106 (.slice 5):=⟨Tryz.underlying106⟩
instance amB:eJ av 130 (.array 10 74):=⟨Tryz.underlying130⟩
instance anB:qc av 130 [.cG, .cG, .cG, .cG, .cG, .cG, .cG, .cG, .cG, .cG]:=⟨by kernel_rfl⟩
instance alD:Pl av 130 [(0,1,false),(1,1,false),(2,1,false),(3,1,false),(4,1,false),(5,1,false),(6,1,false),(7,1,false),(8,1,false),(9,1,false)]:=⟨by kernel_rfl⟩
instance al9:ew av 132 true 2:=⟨by kernel_rfl,by kernel_rfl⟩
instance anC:qc av 132 [.val (.int .i64 0), .val (.bool false)]:=⟨by kernel_rfl⟩
instance anK:um av 132 [.val (.int .i64 0), .val (.bool false)]:=⟨by kernel_rfl⟩
instance ajn:Fd av 132 0 0 1 false:=⟨by kernel_rfl⟩
instance alE:Pl av 132 [(0,1,false),(1,1,false)]:=⟨by kernel_rfl⟩
instance amC:eJ av 140 (.slice 74):=⟨Tryz.underlying140⟩
instance amD:eJ av 161 (.array 13 9):=⟨Tryz.underlying161⟩
instance ama:ew av 161 true 13:=⟨by kernel_rfl,by kernel_rfl⟩
instance amE:eJ av 166 (.array 43 9):=⟨Tryz.underlying166⟩
instance amb:ew av 166 true 43:=⟨by kernel_rfl,by kernel_rfl⟩
instance amF:eJ av 172 (.int .u64):=⟨Tryz.underlying172⟩
instance amG:eJ av 174 (.int .u64):=⟨Tryz.underlying174⟩
instance amH:eJ av 179 (.int .i64):=⟨Tryz.underlying179⟩
instance aiY:EI av 179:=⟨by kernel_rfl⟩
instance amI:eJ av 182 (.pointer 193):=⟨Tryz.underlying182⟩
instance amc:ew av 193 true 3:=⟨by kernel_rfl,by kernel_rfl⟩
instance anD:qc av 193 [.val (.string ⟨#[]⟩), .val (.string ⟨#[]⟩), .val .nilIface]:=⟨by kernel_rfl⟩
instance alF:Pl av 193 [(0,1,false),(1,1,false),(2,1,false)]:=⟨by kernel_rfl⟩
instance ais:Bp av 3 1:=⟨by kernel_rfl⟩
instance aiu:Bp av 9 1:=⟨by kernel_rfl⟩
instance ait:Bp av 54 4:=⟨by kernel_rfl⟩
structure bC where
 Kind:Int
 Text:ByteArray
 N:Int
 fW:Int
 Kids:(List Int)
 jH:Int
 deriving DecidableEq,Inhabited
structure aL where bn:(List bC)deriving DecidableEq,Inhabited
structure cF where
 Code:Int
 jH:Int
 deriving DecidableEq,Inhabited
structure jc where
 t:aL
 first:(List Int)
 deriving DecidableEq,Inhabited
structure jM where
 Op:Int
 V9:Bool
 deriving DecidableEq,Inhabited
structure bz where
 Kind:Int
 Text:ByteArray
 N:Int
 jH:Int
 deriving DecidableEq,Inhabited
structure aZ where
 t:aL
 out:(List bz)
 deriving DecidableEq,Inhabited
structure sx where
 Func:ByteArray
 TI:ByteArray
 Tz:ck
 deriving DecidableEq,Inhabited
def eX(x:Int):List U:=[(I x)]
instance:yN eX:=⟨fun x=>rfl⟩
def dc(x:bC):List U:=[(I x.Kind),(U.val (.string x.Text)),(I x.N),(I x.fW),(.sl ((x.Kids).map eX)),(I x.jH)]
def cM(x:aL):List U:=[(.sl ((x.bn).map dc))]
def ff(x:cF):List U:=[(I x.Code),(I x.jH)]
def we(x:jc):List U:=[(.sl ((x.t.bn).map dc)),(.own ((x.first).map eX) (x.first).length)]
def Xm(x:jM):List U:=[(I x.Op),(B x.V9)]
def l8(x:ByteArray):List U:=[(U.val (.string x))]
instance:yN l8:=⟨fun x=>rfl⟩
instance:ER l8:=⟨fun x=>rfl,fun x=>rfl⟩
def dK(x:bz):List U:=[(I x.Kind),(U.val (.string x.Text)),(I x.N),(I x.jH)]
instance:yN dK:=⟨fun x=>rfl⟩
instance:ER dK:=⟨fun x=>rfl,fun x=>rfl⟩
instance:Mz dK dK:=⟨fun x=>rfl⟩
def dL(x:aZ):List U:=[(.sl ((x.t.bn).map dc)),(.own ((x.out).map dK) (x.out).length)]
def Fq(x:Int):List U:=[(U.val (.int .u8 x))]
def Fs(x:sx):List U:=[(U.val (.string x.Func)),(U.val (.string x.TI)),(gJ 179 x.Tz)]
def N6(x:(List ByteArray)):List U:=[(.sl ((x).map l8))]
theorem YN(x y:Operand){dQ q0:Int}{p1 q1:Int}:ez av.P .eql 26 x y (.agg ⟨[.int .i64 dQ, .int .i64 p1]⟩) (.agg ⟨[.int .i64 q0, .int .i64 q1]⟩)=some (.bool ((dQ==q0)&&((p1==q1)&&true))):=WM (P:=Tryz.prog) Tryz.underlying26 Tryz.stoodInHeld26 Tryz.eqGuardType26 (by simp[ux,Tryz.underlying3,fits,D2])
theorem Ou(x y:Operand){dQ q0:Int}{p1 q1:Int}:ez av.P .neq 26 x y (.agg ⟨[.int .i64 dQ, .int .i64 p1]⟩) (.agg ⟨[.int .i64 q0, .int .i64 q1]⟩)=some (.bool (!((dQ==q0)&&((p1==q1)&&true)))):=WU (P:=Tryz.prog) Tryz.underlying26 Tryz.stoodInHeld26 Tryz.eqGuardType26 (by simp[ux,Tryz.underlying3,fits,D2])
end Go.Ab
namespace Go.Ab
open Go Go.Proofs
variable[kY]
def Lx(B:Nat)(x:bC):Prop:=(fun n:Int=>(Lit.int .i64 n).wf=true) x.Kind∧(fun s:ByteArray=>s.size<=B) x.Text∧(fun n:Int=>(Lit.int .i64 n).wf=true) x.N∧(fun n:Int=>(Lit.int .i64 n).wf=true) x.fW∧(fun l:(List Int)=>l.length<=B∧∀x∈l,(fun n:Int=>(Lit.int .i64 n).wf=true) x) x.Kids∧(fun n:Int=>(Lit.int .i64 n).wf=true) x.jH
theorem Yv{B:Nat}:∀cells,iR av.P B 38 cells->∃x:bC,cells=dc x∧Lx B x:=by intro cells h;have h0:=Of Tryz.underlying38 h;clear h;obtain⟨a0,b0,e0,g0,h1⟩:=wm h0;obtain⟨x0,k0,o0⟩:=(BW Tryz.underlying3 g0);obtain⟨a1,b1,e1,g1,h2⟩:=wm h1;obtain⟨x1,k1,o1⟩:=(Yy Tryz.underlying9 g1);obtain⟨a2,b2,e2,g2,h3⟩:=wm h2;obtain⟨x2,k2,o2⟩:=(BW Tryz.underlying3 g2);obtain⟨a3,b3,bJ,g3,h4⟩:=wm h3;obtain⟨x3,dJ,GG⟩:=(BW Tryz.underlying3 g3);obtain⟨a4,b4,fC,g4,h5⟩:=wm h4;obtain⟨aI,j7,adB⟩:=(Oi (c:=eX) (ok:=(fun n:Int=>(Lit.int .i64 n).wf=true)) Tryz.underlying36 (fun cs(h:iR Tryz.prog B 3 cs)=>(BW Tryz.underlying3 h)) g4);obtain⟨a5,vX,wq,g5,h6⟩:=wm h5;obtain⟨aN,j8,adC⟩:=(BW Tryz.underlying3 g5);have KL:=Og h6;subst KL;rw[j8]at wq;subst wq;rw[j7]at fC;subst fC;rw[dJ]at bJ;subst bJ;rw[k2]at e2;subst e2;rw[k1]at e1;subst e1;rw[k0]at e0;subst e0;exact⟨⟨x0,x1,x2,x3,aI,aN⟩,rfl,o0,o1,o2,GG,adB,adC⟩
def GM(B:Nat)(x:aL):Prop:=(fun l:(List bC)=>l.length<=B∧∀x∈l,(Lx B) x) x.bn
theorem Yw{B:Nat}:∀cells,iR av.P B 24 cells->∃x:aL,cells=cM x∧GM B x:=by intro cells h;have h0:=Of Tryz.underlying24 h;clear h;obtain⟨a0,b0,e0,g0,h1⟩:=wm h0;obtain⟨x0,k0,o0⟩:=(Oi (c:=dc) (ok:=(Lx B)) Tryz.underlying22 (fun cs(h:iR Tryz.prog B 38 cs)=>(Yv _ h)) g0);have KL:=Og h1;subst KL;rw[k0]at e0;subst e0;exact⟨⟨x0⟩,rfl,o0⟩
end Go.Ab
