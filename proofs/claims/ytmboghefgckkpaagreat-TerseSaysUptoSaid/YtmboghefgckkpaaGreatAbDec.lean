import Derived.Test.YtmboghefgckkpaaGreatAbIn
import Derived.Test.YtmboghefgckkpaaGreatAbGenTy
namespace Go.Ab
open Go Go.Proofs
def OE(B:Nat)(x:aM):Prop:=(fun n:Int=>(Lit.int .i64 n).wf=true) x.Kind∧(fun s:ByteArray=>s.size≤B) x.Text∧(fun n:Int=>(Lit.int .i64 n).wf=true) x.N∧(fun n:Int=>(Lit.int .i64 n).wf=true) x.fy∧(fun l:(List Int)=>l.length≤B∧∀x∈l,(fun n:Int=>(Lit.int .i64 n).wf=true) x) x.Kids∧(fun n:Int=>(Lit.int .i64 n).wf=true) x.bu
theorem adF{B:Nat}:∀cells,jq az.P B 34 cells→∃x:aM,cells=bh x∧OE B x:=by intro cells h;have h0:=R1 Tryz.underlying34 h;clear h;obtain⟨a0,b0,e0,g0,h1⟩:=yL h0;obtain⟨x0,k0,o0⟩:=(Fa Tryz.underlying3 g0);obtain⟨a1,b1,e1,g1,h2⟩:=yL h1;obtain⟨x1,k1,o1⟩:=(adH Tryz.underlying9 g1);obtain⟨a2,b2,e2,g2,h3⟩:=yL h2;obtain⟨au,k2,o2⟩:=(Fa Tryz.underlying3 g2);obtain⟨a3,b3,bV,g3,h4⟩:=yL h3;obtain⟨aA,c8,U8⟩:=(Fa Tryz.underlying3 g3);obtain⟨a4,b4,e3,g4,h5⟩:=yL h4;obtain⟨aP,eV,ajM⟩:=(R4 (c:=bq) (ok:=(fun n:Int=>(Lit.int .i64 n).wf=true)) Tryz.underlying32 (fun cs(h:jq Tryz.prog B 3 cs)=>(Fa Tryz.underlying3 h)) g4);obtain⟨a5,ve,oG,fV,h6⟩:=yL h5;obtain⟨aZ,fz,qk⟩:=(Fa Tryz.underlying3 fV);have Ob:=R2 h6;subst Ob;rw[fz]at oG;subst oG;rw[eV]at e3;subst e3;rw[c8]at bV;subst bV;rw[k2]at e2;subst e2;rw[k1]at e1;subst e1;rw[k0]at e0;subst e0;exact⟨⟨x0,x1,au,aA,aP,aZ⟩,rfl,o0,o1,o2,U8,ajM,qk⟩
def OF(B:Nat)(x:ay):Prop:=(fun l:(List aM)=>l.length≤B∧∀x∈l,(OE B) x) x.aK
theorem adG{B:Nat}:∀cells,jq az.P B 24 cells→∃x:ay,cells=aW x∧OF B x:=by intro cells h;have h0:=R1 Tryz.underlying24 h;clear h;obtain⟨a0,b0,e0,g0,h1⟩:=yL h0;obtain⟨x0,k0,o0⟩:=(R4 (c:=bh) (ok:=(OE B)) Tryz.underlying22 (fun cs(h:jq Tryz.prog B 34 cs)=>(adF _ h)) g0);have Ob:=R2 h1;subst Ob;rw[k0]at e0;subst e0;exact⟨⟨x0⟩,rfl,o0⟩
end Go.Ab
