import Derived.Test.YtbbhbdlljfffdaaGreatDoorAbIn
import Derived.Test.YtbbhbdlljfffdaaGreatDoorAbGenTy
set_option linter.all false
namespace Go.Ab
open Go Go.Proofs
variable[jo]
def Lu(B:Nat)(x:aI):Prop:=(fun n:Int=>(Lit.int .i64 n).wf=true) x.Kind∧(fun s:ByteArray=>s.size≤B) x.Text∧(fun n:Int=>(Lit.int .i64 n).wf=true) x.N∧(fun n:Int=>(Lit.int .i64 n).wf=true) x.eJ∧(fun l:(List Int)=>l.length≤B∧∀x∈l,(fun n:Int=>(Lit.int .i64 n).wf=true) x) x.Kids∧(fun n:Int=>(Lit.int .i64 n).wf=true) x.cx
theorem aaS{B:Nat}:∀cells,iV ai.P B 36 cells→∃x:aI,cells=bK x∧Lu B x:=by intro cells h;have h0:=Pj Tryz.underlying36 h;clear h;obtain⟨a0,b0,e0,g0,h1⟩:=wK h0;obtain⟨x0,k0,o0⟩:=(B4 Tryz.underlying3 g0);obtain⟨a1,b1,e1,g1,h2⟩:=wK h1;obtain⟨x1,k1,o1⟩:=(aaU Tryz.underlying9 g1);obtain⟨a2,b2,e2,g2,h3⟩:=wK h2;obtain⟨x2,k2,o2⟩:=(B4 Tryz.underlying3 g2);obtain⟨a3,b3,cm,g3,h4⟩:=wK h3;obtain⟨x3,dG,Su⟩:=(B4 Tryz.underlying3 g3);obtain⟨a4,b4,gy,g4,h5⟩:=wK h4;obtain⟨aH,iK,ag4⟩:=(Pn (c:=bl) (ok:=(fun n:Int=>(Lit.int .i64 n).wf=true)) Tryz.underlying34 (fun cs(h:iV Tryz.prog B 3 cs)=>(B4 Tryz.underlying3 h)) g4);obtain⟨a5,qi,wN,g5,h6⟩:=wK h5;obtain⟨aT,kF,ag5⟩:=(B4 Tryz.underlying3 g5);have qE:=Pk h6;subst qE;rw[kF]at wN;subst wN;rw[iK]at gy;subst gy;rw[dG]at cm;subst cm;rw[k2]at e2;subst e2;rw[k1]at e1;subst e1;rw[k0]at e0;subst e0;exact⟨⟨x0,x1,x2,x3,aH,aT⟩,rfl,o0,o1,o2,Su,ag4,ag5⟩
def SR(B:Nat)(x:b6):Prop:=(fun l:(List aI)=>l.length≤B∧∀x∈l,(Lu B) x) x.aB
theorem aaT{B:Nat}:∀cells,iV ai.P B 24 cells→∃x:b6,cells=eT x∧SR B x:=by intro cells h;have h0:=Pj Tryz.underlying24 h;clear h;obtain⟨a0,b0,e0,g0,h1⟩:=wK h0;obtain⟨x0,k0,o0⟩:=(Pn (c:=bK) (ok:=(Lu B)) Tryz.underlying22 (fun cs(h:iV Tryz.prog B 36 cs)=>(aaS _ h)) g0);have qE:=Pk h1;subst qE;rw[k0]at e0;subst e0;exact⟨⟨x0⟩,rfl,o0⟩
end Go.Ab
