import Derived.Test.YtbbhbdlljfffdaaGreatDoorAbIn
import Derived.Test.YtbbhbdlljfffdaaGreatDoorAbGenTy
set_option linter.all false
namespace Go.Ab
open Go Go.Proofs
variable[iM]
def F2(B:Nat)(x:br):Prop:=(fun n:Int=>(Lit.int .i64 n).wf=true) x.Kind∧(fun s:ByteArray=>s.size≤B) x.Text∧(fun n:Int=>(Lit.int .i64 n).wf=true) x.N∧(fun n:Int=>(Lit.int .i64 n).wf=true) x.fC∧(fun l:(List Int)=>l.length≤B∧∀x∈l,(fun n:Int=>(Lit.int .i64 n).wf=true) x) x.Kids∧(fun n:Int=>(Lit.int .i64 n).wf=true) x.c4
theorem Tp{B:Nat}:∀cells,gd aj.P B 36 cells→∃x:br,cells=ct x∧F2 B x:=by intro cells h;have h0:=Jf Tryz.underlying36 h;clear h;obtain⟨a0,b0,e0,g0,h1⟩:=si h0;obtain⟨x0,k0,o0⟩:=(xu Tryz.underlying3 g0);obtain⟨a1,b1,e1,g1,h2⟩:=si h1;obtain⟨x1,k1,o1⟩:=(Tr Tryz.underlying9 g1);obtain⟨a2,b2,e2,g2,h3⟩:=si h2;obtain⟨x2,k2,o2⟩:=(xu Tryz.underlying3 g2);obtain⟨a3,b3,bQ,g3,h4⟩:=si h3;obtain⟨x3,cD,LR⟩:=(xu Tryz.underlying3 g3);obtain⟨a4,b4,eV,g4,h5⟩:=si h4;obtain⟨aM,eX,Zf⟩:=(Ji (c:=dS) (ok:=(fun n:Int=>(Lit.int .i64 n).wf=true)) Tryz.underlying34 (fun cs(h:gd Tryz.prog B 3 cs)=>(xu Tryz.underlying3 h)) g4);obtain⟨a5,rW,sj,g5,h6⟩:=si h5;obtain⟨aW,iB,Zg⟩:=(xu Tryz.underlying3 g5);have vv:=Jg h6;subst vv;rw[iB]at sj;subst sj;rw[eX]at eV;subst eV;rw[cD]at bQ;subst bQ;rw[k2]at e2;subst e2;rw[k1]at e1;subst e1;rw[k0]at e0;subst e0;exact⟨⟨x0,x1,x2,x3,aM,aW⟩,rfl,o0,o1,o2,LR,Zf,Zg⟩
def Mb(B:Nat)(x:bx):Prop:=(fun l:(List br)=>l.length≤B∧∀x∈l,(F2 B) x) x.bn
theorem Tq{B:Nat}:∀cells,gd aj.P B 24 cells→∃x:bx,cells=e4 x∧Mb B x:=by intro cells h;have h0:=Jf Tryz.underlying24 h;clear h;obtain⟨a0,b0,e0,g0,h1⟩:=si h0;obtain⟨x0,k0,o0⟩:=(Ji (c:=ct) (ok:=(F2 B)) Tryz.underlying22 (fun cs(h:gd Tryz.prog B 36 cs)=>(Tp _ h)) g0);have vv:=Jg h1;subst vv;rw[k0]at e0;subst e0;exact⟨⟨x0⟩,rfl,o0⟩
end Go.Ab
