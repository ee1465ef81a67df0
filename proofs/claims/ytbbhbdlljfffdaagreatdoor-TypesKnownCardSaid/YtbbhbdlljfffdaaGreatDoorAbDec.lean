import Derived.Test.YtbbhbdlljfffdaaGreatDoorAbIn
import Derived.Test.YtbbhbdlljfffdaaGreatDoorAbGenTy
set_option linter.all false
namespace Go.Ab
open Go Go.Proofs
variable[iW]
def KC(B:Nat)(x:aQ):Prop:=(fun n:Int=>(Lit.int .i64 n).wf=true) x.Kind∧(fun s:ByteArray=>s.size≤B) x.Text∧(fun n:Int=>(Lit.int .i64 n).wf=true) x.N∧(fun n:Int=>(Lit.int .i64 n).wf=true) x.gj∧(fun l:(List Int)=>l.length≤B∧∀x∈l,(fun n:Int=>(Lit.int .i64 n).wf=true) x) x.Kids∧(fun n:Int=>(Lit.int .i64 n).wf=true) x.cr
theorem Y7{B:Nat}:∀cells,iC aj.P B 36 cells→∃x:aQ,cells=cj x∧KC B x:=by intro cells h;have h0:=On Tryz.underlying36 h;clear h;obtain⟨a0,b0,e0,g0,h1⟩:=vC h0;obtain⟨x0,k0,o0⟩:=(yj Tryz.underlying3 g0);obtain⟨a1,b1,e1,g1,h2⟩:=vC h1;obtain⟨x1,k1,o1⟩:=(Y8 Tryz.underlying9 g1);obtain⟨a2,b2,e2,g2,h3⟩:=vC h2;obtain⟨x2,k2,o2⟩:=(yj Tryz.underlying3 g2);obtain⟨a3,b3,cc,g3,h4⟩:=vC h3;obtain⟨x3,ep,Rh⟩:=(yj Tryz.underlying3 g3);obtain⟨a4,b4,fX,g4,h5⟩:=vC h4;obtain⟨aM,gO,afn⟩:=(Ot (c:=bf) (ok:=(fun n:Int=>(Lit.int .i64 n).wf=true)) Tryz.underlying34 (fun cs(h:iC Tryz.prog B 3 cs)=>(yj Tryz.underlying3 h)) g4);obtain⟨a5,pF,vF,g5,h6⟩:=vC h5;obtain⟨aR,ko,afo⟩:=(yj Tryz.underlying3 g5);have p7:=Oo h6;subst p7;rw[ko]at vF;subst vF;rw[gO]at fX;subst fX;rw[ep]at cc;subst cc;rw[k2]at e2;subst e2;rw[k1]at e1;subst e1;rw[k0]at e0;subst e0;exact⟨⟨x0,x1,x2,x3,aM,aR⟩,rfl,o0,o1,o2,Rh,afn,afo⟩
def RB(B:Nat)(x:b6):Prop:=(fun l:(List aQ)=>l.length≤B∧∀x∈l,(KC B) x) x.aK
theorem HR{B:Nat}:∀cells,iC aj.P B 24 cells→∃x:b6,cells=fC x∧RB B x:=by intro cells h;have h0:=On Tryz.underlying24 h;clear h;obtain⟨a0,b0,e0,g0,h1⟩:=vC h0;obtain⟨x0,k0,o0⟩:=(Ot (c:=cj) (ok:=(KC B)) Tryz.underlying22 (fun cs(h:iC Tryz.prog B 36 cs)=>(Y7 _ h)) g0);have p7:=Oo h1;subst p7;rw[k0]at e0;subst e0;exact⟨⟨x0⟩,rfl,o0⟩
end Go.Ab
