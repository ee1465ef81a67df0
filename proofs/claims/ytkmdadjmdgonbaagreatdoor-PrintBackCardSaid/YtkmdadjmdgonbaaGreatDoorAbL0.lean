import Derived.Test.YtkmdadjmdgonbaaGreatDoorAbV7
open Bool renaming true->bv,false->ci
open Option renaming some->ac,none->am
set_option linter.all false
namespace Go.Ab
open Go
theorem jR{n:Int}(h1:-9223372036854775808<=n)(h2:n<9223372036854775808):bE n=n:=by simp only[bE,IntKind.wrap,IntKind.bits,IntKind.signed];simp;split<;>omega
theorem jq{i:Nat}(h:i<9223372036854775807):bE ((i:Int)+1)=((i+1:Nat):Int):=by rw[jR (by omega) (by omega)];rfl
theorem lF{α:Type}{l:List α}{i:Nat}(h:i<l.length):idx l (i:Int)=ac l[i]:=by unfold idx;rw[if_pos (by omega)];simp[h]
def run{σ b9 α:Type}(f:Nat->σ->α->b9⊕σ)(e:σ->b9):Nat->σ->List α->b9|_,s,[]=>e s|i,s,x::l=>match f i s x with| .inl o=>o| .inr s'=>run f e (i+1) s' l
theorem Ox{σ b9 α S:Type}{l:List α}(pack:σ->Int->S)(f:Nat->σ->α->b9⊕σ)(e:σ->b9)(Inv:Nat->σ->Prop){step:S->Option (cM S b9)}(hs:∀i s(h:i<l.length),Inv i s->match f i s l[i]with| .inl o=>step (pack s (i:Int))=ac (.out o)| .inr s'=>step (pack s (i:Int))=ac (.next (pack s' ((i+1:Nat):Int)))∧Inv (i+1) s')(he:∀s,Inv l.length s->step (pack s (l.length:Int))=ac (.out (e s))){fX:σ}(h0:Inv 0 fX):Loop step (pack fX 0)=ac (run f e 0 fX l):=by have key:∀k i s,l.length-i=k->i<=l.length->Inv i s->Loop step (pack s (i:Int))=ac (run f e i s (l.drop i)):=by{intro k;induction k with|zero=>(intro i s hk hi hI;obtain rfl:i=l.length:=by{omega};rw[fP,he s hI,List.drop_length];rfl)|succ k ih=>intro i s hk hi hI;have hlt:i<l.length:=by{omega};have h1:=hs i s hlt hI;rw[fP,List.drop_eq_getElem_cons hlt];unfold run;split at h1;·{rw[h1];rfl};·rename_i s' ho;rw[h1.1];exact ih (i+1) s' (by omega) (by omega) h1.2};exact key _ 0 fX rfl (by omega) h0
def ko{α ρ:Type}(g:Nat->α->Option ρ):Nat->List α->Option ρ|_,[]=>am|i,x::l=>match g i x with|some r=>ac r|none=>ko g (i+1) l
def Az{ρ:Type}:Option ρ->cF Unit ρ|some r=> .ret r|none=> .dh ()
theorem CT{α ρ:Type}{l:List α}(g:Nat->α->Option ρ){step:Int->Option (cM Int (cF Unit ρ))}(hs:∀i(h:i<l.length),step (i:Int)=ac (match g i l[i]with|some r=> .out (.ret r)|none=> .next ((i+1:Nat):Int)))(he:step (l.length:Int)=ac (.out (.dh ()))):Loop (λs=>step s) 0=ac (Az (ko g 0 l)):=by have:=Ox (l:=l) (σ:=Unit) (b9:=cF Unit ρ) (λ_ i=>i) (λi _ x=>match g i x with|some r=> .inl (.ret r)|none=> .inr ()) (λ_=> .dh ()) (λ_ _=>True) (step:=step) (λi s h _=>by have:=hs i h;cases hg:g i l[i]with|some r=>(simp only[hg]at this|-;exact this)|none=>simp only[hg]at this|-;exact⟨this,trivial⟩) (λs _=>he) (fX:=()) trivial;rw[this];congr 1;generalize 0=i;clear this hs he;induction l generalizing i with|nil=>(rfl)|cons x l ih=>simp only[run,ko];cases g i x with|some r=>(rfl)|none=>exact ih (i+1)
theorem Rg{α ρ:Type}{g:Nat->α->Option ρ}:∀{l:List α}{i:Nat},(∀x∈l,∀j,g j x=am)->ko g i l=am|[],_,_=>rfl|x::l,i,h=>by simp only[ko,h x (by simp)];exact Rg λy hy=>h y (by simp[hy])
end Go.Ab
