import Derived.Test.YtbhpblokoecoaaaAbIn
import Derived.Test.YtbhpblokoecoaaaAbGenTy
namespace Go.Ab
open Go Go.Proofs
def KC(B:Nat)(x:aZ):Prop:=(fun n:Int=>(Lit.int .i64 n).wf=true) x.Kind∧(fun s:ByteArray=>s.size≤B) x.Text∧(fun n:Int=>(Lit.int .i64 n).wf=true) x.N∧(fun n:Int=>(Lit.int .i64 n).wf=true) x.ew∧(fun l:(List Int)=>l.length≤B∧∀x∈l,(fun n:Int=>(Lit.int .i64 n).wf=true) x) x.Kids∧(fun n:Int=>(Lit.int .i64 n).wf=true) x.en
theorem W8{B:Nat}:∀cells,hH aA.P B 44 cells→∃x:aZ,cells=bA x∧KC B x:=by intro cells h;have h0:=MX Try.underlying44 h;clear h;obtain⟨a0,b0,e0,g0,h1⟩:=vS h0;obtain⟨x0,k0,o0⟩:=(yW Try.underlying3 g0);obtain⟨a1,b1,e1,g1,h2⟩:=vS h1;obtain⟨x1,k1,o1⟩:=(Xa Try.underlying9 g1);obtain⟨a2,b2,e2,g2,h3⟩:=vS h2;obtain⟨av,k2,o2⟩:=(yW Try.underlying3 g2);obtain⟨a3,b3,bV,g3,h4⟩:=vS h3;obtain⟨aC,dB,acs⟩:=(yW Try.underlying3 g3);obtain⟨a4,b4,eI,g4,h5⟩:=vS h4;obtain⟨aO,e6,acu⟩:=(M0 (c:=bk) (ok:=(fun n:Int=>(Lit.int .i64 n).wf=true)) Try.underlying25 (fun cs(h:hH Try.prog B 3 cs)=>(yW Try.underlying3 h)) g4);obtain⟨a5,sr,oC,fV,h6⟩:=vS h5;obtain⟨aX,eU,acv⟩:=(yW Try.underlying3 fV);have Kf:=MY h6;subst Kf;rw[eU]at oC;subst oC;rw[e6]at eI;subst eI;rw[dB]at bV;subst bV;rw[k2]at e2;subst e2;rw[k1]at e1;subst e1;rw[k0]at e0;subst e0;exact⟨⟨x0,x1,av,aC,aO,aX⟩,rfl,o0,o1,o2,acs,acu,acv⟩
def KD(B:Nat)(x:aN):Prop:=(fun l:(List aZ)=>l.length≤B∧∀x∈l,(KC B) x) x.aP
theorem W9{B:Nat}:∀cells,hH aA.P B 24 cells→∃x:aN,cells=bg x∧KD B x:=by intro cells h;have h0:=MX Try.underlying24 h;clear h;obtain⟨a0,b0,e0,g0,h1⟩:=vS h0;obtain⟨x0,k0,o0⟩:=(M0 (c:=bA) (ok:=(KC B)) Try.underlying22 (fun cs(h:hH Try.prog B 44 cs)=>(W8 _ h)) g0);have Kf:=MY h1;subst Kf;rw[k0]at e0;subst e0;exact⟨⟨x0⟩,rfl,o0⟩
end Go.Ab
