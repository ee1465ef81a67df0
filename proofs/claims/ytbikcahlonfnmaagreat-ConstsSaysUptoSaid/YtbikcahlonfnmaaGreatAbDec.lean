import Derived.Test.YtbikcahlonfnmaaGreatAbIn
import Derived.Test.YtbikcahlonfnmaaGreatAbGenTy
namespace Go.Ab
open Go Go.Proofs
def NF(B:Nat)(x:aZ):Prop:=(fun n:Int=>(Lit.int .i64 n).wf=true) x.Kind∧(fun s:ByteArray=>s.size≤B) x.Text∧(fun n:Int=>(Lit.int .i64 n).wf=true) x.N∧(fun n:Int=>(Lit.int .i64 n).wf=true) x.fA∧(fun l:(List Int)=>l.length≤B∧∀x∈l,(fun n:Int=>(Lit.int .i64 n).wf=true) x) x.Kids∧(fun n:Int=>(Lit.int .i64 n).wf=true) x.dm
theorem abp{B:Nat}:∀cells,iu ay.P B 38 cells→∃x:aZ,cells=bu x∧NF B x:=by intro cells h;have h0:=Qv Tryz.underlying38 h;clear h;obtain⟨a0,b0,e0,g0,h1⟩:=xR h0;obtain⟨x0,k0,o0⟩:=(AT Tryz.underlying3 g0);obtain⟨a1,b1,e1,g1,h2⟩:=xR h1;obtain⟨x1,k1,o1⟩:=(abr Tryz.underlying9 g1);obtain⟨a2,b2,e2,g2,h3⟩:=xR h2;obtain⟨ax,k2,o2⟩:=(AT Tryz.underlying3 g2);obtain⟨a3,b3,bN,g3,h4⟩:=xR h3;obtain⟨aA,cU,TI⟩:=(AT Tryz.underlying3 g3);obtain⟨a4,b4,eM,g4,h5⟩:=xR h4;obtain⟨aS,eE,ahh⟩:=(Qy (c:=bn) (ok:=(fun n:Int=>(Lit.int .i64 n).wf=true)) Tryz.underlying36 (fun cs(h:iu Tryz.prog B 3 cs)=>(AT Tryz.underlying3 h)) g4);obtain⟨a5,tw,pP,fB,h6⟩:=xR h5;obtain⟨bf,e7,ahi⟩:=(AT Tryz.underlying3 fB);have Na:=Qw h6;subst Na;rw[e7]at pP;subst pP;rw[eE]at eM;subst eM;rw[cU]at bN;subst bN;rw[k2]at e2;subst e2;rw[k1]at e1;subst e1;rw[k0]at e0;subst e0;exact⟨⟨x0,x1,ax,aA,aS,bf⟩,rfl,o0,o1,o2,TI,ahh,ahi⟩
def NG(B:Nat)(x:aB):Prop:=(fun l:(List aZ)=>l.length≤B∧∀x∈l,(NF B) x) x.aP
theorem abq{B:Nat}:∀cells,iu ay.P B 24 cells→∃x:aB,cells=aY x∧NG B x:=by intro cells h;have h0:=Qv Tryz.underlying24 h;clear h;obtain⟨a0,b0,e0,g0,h1⟩:=xR h0;obtain⟨x0,k0,o0⟩:=(Qy (c:=bu) (ok:=(NF B)) Tryz.underlying22 (fun cs(h:iu Tryz.prog B 38 cs)=>(abp _ h)) g0);have Na:=Qw h1;subst Na;rw[k0]at e0;subst e0;exact⟨⟨x0⟩,rfl,o0⟩
end Go.Ab
