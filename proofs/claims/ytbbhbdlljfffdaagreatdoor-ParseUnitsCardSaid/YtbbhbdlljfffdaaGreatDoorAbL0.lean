import Derived.Test.YtbbhbdlljfffdaaGreatDoorAbV7
set_option linter.all false
namespace Go.Ab
open Go
theorem jC{n:Int}(h1:-9223372036854775808<=n)(h2:n<9223372036854775808):bw n=n:=by simp only[bw,IntKind.wrap,IntKind.bits,IntKind.signed];simp;split<;>omega
theorem iy{i:Nat}(h:i<9223372036854775807):bw ((i:Int)+1)=((i+1:Nat):Int):=by rw[jC (by omega) (by omega)];rfl
theorem pn{α:Type}{l:List α}{i:Nat}(h:i<l.length):idx l (i:Int)=some l[i]:=by unfold idx;rw[if_pos (by omega)];simp[h]
def run{σ cv α:Type}(f:Nat->σ->α->cv⊕σ)(e:σ->cv):Nat->σ->List α->cv|_,s,[]=>e s|i,s,x::l=>match f i s x with| .inl o=>o| .inr s'=>run f e (i+1) s' l
theorem V2{σ cv α S:Type}{l:List α}(pack:σ->Int->S)(f:Nat->σ->α->cv⊕σ)(e:σ->cv)(Inv:Nat->σ->Prop){step:S->Option (cx S cv)}(hs:∀i s(h:i<l.length),Inv i s->match f i s l[i]with| .inl o=>step (pack s (i:Int))=some (.out o)| .inr s'=>step (pack s (i:Int))=some (.next (pack s' ((i+1:Nat):Int)))∧Inv (i+1) s')(he:∀s,Inv l.length s->step (pack s (l.length:Int))=some (.out (e s))){iw:σ}(h0:Inv 0 iw):Loop step (pack iw 0)=some (run f e 0 iw l):=by have key:∀k i s,l.length-i=k->i<=l.length->Inv i s->Loop step (pack s (i:Int))=some (run f e i s (l.drop i)):=by{intro k;induction k with|zero=>(intro i s hk hi hI;obtain rfl:i=l.length:=by{omega};rw[cC,he s hI,List.drop_length];rfl)|succ k ih=>intro i s hk hi hI;have hlt:i<l.length:=by{omega};have h1:=hs i s hlt hI;rw[cC,List.drop_eq_getElem_cons hlt];unfold run;split at h1;·{rw[h1];rfl};·rename_i s' ho;rw[h1.1];exact ih (i+1) s' (by omega) (by omega) h1.2};exact key _ 0 iw rfl (by omega) h0
def p5{α ρ:Type}(g:Nat->α->Option ρ):Nat->List α->Option ρ|_,[]=>none|i,x::l=>match g i x with|some r=>some r|none=>p5 g (i+1) l
def Hy{ρ:Type}:Option ρ->cH Unit ρ|some r=> .ret r|none=> .dP ()
theorem Bc{α ρ:Type}{l:List α}(g:Nat->α->Option ρ){step:Int->Option (cx Int (cH Unit ρ))}(hs:∀i(h:i<l.length),step (i:Int)=some (match g i l[i]with|some r=> .out (.ret r)|none=> .next ((i+1:Nat):Int)))(he:step (l.length:Int)=some (.out (.dP ()))):Loop (fun s=>step s) 0=some (Hy (p5 g 0 l)):=by have:=V2 (l:=l) (σ:=Unit) (cv:=cH Unit ρ) (fun _ i=>i) (fun i _ x=>match g i x with|some r=> .inl (.ret r)|none=> .inr ()) (fun _=> .dP ()) (fun _ _=>True) (step:=step) (fun i s h _=>by have:=hs i h;cases hg:g i l[i]with|some r=>(simp only[hg]at this|-;exact this)|none=>simp only[hg]at this|-;exact⟨this,trivial⟩) (fun s _=>he) (iw:=()) trivial;rw[this];congr 1;generalize 0=i;clear this hs he;induction l generalizing i with|nil=>(rfl)|cons x l ih=>simp only[run,p5];cases g i x with|some r=>(rfl)|none=>exact ih (i+1)
theorem KW{α ρ:Type}{g:Nat->α->Option ρ}:∀{l:List α}{i:Nat},(∀x∈l,∀j,g j x=none)->p5 g i l=none|[],_,_=>rfl|x::l,i,h=>by simp only[p5,h x (by simp)];exact KW fun y hy=>h y (by simp[hy])
end Go.Ab
