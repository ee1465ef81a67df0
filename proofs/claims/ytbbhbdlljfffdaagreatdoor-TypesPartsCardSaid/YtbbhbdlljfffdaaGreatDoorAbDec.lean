import Derived.Test.YtbbhbdlljfffdaaGreatDoorAbIn
import Derived.Test.YtbbhbdlljfffdaaGreatDoorAbGenTy
set_option linter.all false
namespace Go.Ab
open Go Go.Proofs
variable[ja]
def KI(B:Nat)(x:aN):Prop:=(fun n:Int=>(Lit.int .i64 n).wf=true) x.Kind∧(fun s:ByteArray=>s.size≤B) x.Text∧(fun n:Int=>(Lit.int .i64 n).wf=true) x.N∧(fun n:Int=>(Lit.int .i64 n).wf=true) x.gd∧(fun l:(List Int)=>l.length≤B∧∀x∈l,(fun n:Int=>(Lit.int .i64 n).wf=true) x) x.Kids∧(fun n:Int=>(Lit.int .i64 n).wf=true) x.cl
theorem Y9{B:Nat}:∀cells,iJ aj.P B 36 cells→∃x:aN,cells=b8 x∧KI B x:=by intro cells h;have h0:=Oq Tryz.underlying36 h;clear h;obtain⟨a0,b0,e0,g0,h1⟩:=vY h0;obtain⟨x0,k0,o0⟩:=(A9 Tryz.underlying3 g0);obtain⟨a1,b1,e1,g1,h2⟩:=vY h1;obtain⟨x1,k1,o1⟩:=(Zb Tryz.underlying9 g1);obtain⟨a2,b2,e2,g2,h3⟩:=vY h2;obtain⟨x2,k2,o2⟩:=(A9 Tryz.underlying3 g2);obtain⟨a3,b3,b7,g3,h4⟩:=vY h3;obtain⟨x3,dL,CK⟩:=(A9 Tryz.underlying3 g3);obtain⟨a4,b4,gh,g4,h5⟩:=vY h4;obtain⟨aJ,ie,FL⟩:=(Ov (c:=bl) (ok:=(fun n:Int=>(Lit.int .i64 n).wf=true)) Tryz.underlying34 (fun cs(h:iJ Tryz.prog B 3 cs)=>(A9 Tryz.underlying3 h)) g4);obtain⟨a5,pY,sw,g5,h6⟩:=vY h5;obtain⟨aR,kD,afx⟩:=(A9 Tryz.underlying3 g5);have qm:=Ot h6;subst qm;rw[kD]at sw;subst sw;rw[ie]at gh;subst gh;rw[dL]at b7;subst b7;rw[k2]at e2;subst e2;rw[k1]at e1;subst e1;rw[k0]at e0;subst e0;exact⟨⟨x0,x1,x2,x3,aJ,aR⟩,rfl,o0,o1,o2,CK,FL,afx⟩
def RL(B:Nat)(x:cg):Prop:=(fun l:(List aN)=>l.length≤B∧∀x∈l,(KI B) x) x.aK
theorem Za{B:Nat}:∀cells,iJ aj.P B 24 cells→∃x:cg,cells=j0 x∧RL B x:=by intro cells h;have h0:=Oq Tryz.underlying24 h;clear h;obtain⟨a0,b0,e0,g0,h1⟩:=vY h0;obtain⟨x0,k0,o0⟩:=(Ov (c:=b8) (ok:=(KI B)) Tryz.underlying22 (fun cs(h:iJ Tryz.prog B 36 cs)=>(Y9 _ h)) g0);have qm:=Ot h1;subst qm;rw[k0]at e0;subst e0;exact⟨⟨x0⟩,rfl,o0⟩
end Go.Ab
