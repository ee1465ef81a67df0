import Derived.Test.YtbhpblokoecoaaaAbV4
namespace Go.Ab
open Go
theorem dJ{n:Int}(h1:-9223372036854775808≤n)(h2:n<9223372036854775808):aK n=n:=by simp only[aK,IntKind.wrap,IntKind.bits,IntKind.signed];simp;split<;>omega
theorem eu{i:Nat}(h:i<9223372036854775807):aK ((i:Int)+1)=((i+1:Nat):Int):=by rw[dJ (by omega) (by omega)];rfl
theorem iS{α:Type}{l:List α}{i:Nat}(h:i<l.length):idx l (i:Int)=some l[i]:=by unfold idx;rw[if_pos (by omega)];simp[h]
theorem kB{α:Type}{x:α}{l:List α}:idx (x::l) 0=some x:=rfl
theorem rq{α:Type}{x y:α}{l:List α}:idx (x::y::l) 1=some y:=rfl
def run{σ bU α:Type}(f:Nat→σ→α→bU⊕σ)(e:σ→bU):Nat→σ→List α→bU|_,s,[]=>e s|i,s,x::l=>match f i s x with| .inl o=>o| .inr s'=>run f e (i+1) s' l
theorem SQ{σ bU α S:Type}{l:List α}(pack:σ→Int→S)(f:Nat→σ→α→bU⊕σ)(e:σ→bU)(Inv:Nat→σ→Prop){step:S→Option (cj S bU)}(hs:∀i s(h:i<l.length),Inv i s→match f i s l[i]with| .inl o=>step (pack s (i:Int))=some (.out o)| .inr s'=>step (pack s (i:Int))=some (.next (pack s' ((i+1:Nat):Int)))∧Inv (i+1) s')(he:∀s,Inv l.length s→step (pack s (l.length:Int))=some (.out (e s))){e3:σ}(h0:Inv 0 e3):Loop step (pack e3 0)=some (run f e 0 e3 l):=by have key:∀k i s,l.length-i=k→i≤l.length→Inv i s→Loop step (pack s (i:Int))=some (run f e i s (l.drop i)):=by{intro k;induction k with|zero=>(intro i s hk hi hI;obtain rfl:i=l.length:=by{omega};rw[dG,he s hI,List.drop_length];rfl)|succ k ih=>intro i s hk hi hI;have hlt:i<l.length:=by{omega};have h1:=hs i s hlt hI;rw[dG,List.drop_eq_getElem_cons hlt];unfold run;split at h1;·{rw[h1];rfl};·rename_i s' ho;rw[h1.1];exact ih (i+1) s' (by omega) (by omega) h1.2};exact key _ 0 e3 rfl (by omega) h0
def fP{α ρ:Type}(g:Nat→α→Option ρ):Nat→List α→Option ρ|_,[]=>none|i,x::l=>match g i x with|some r=>some r|none=>fP g (i+1) l
def kV{ρ:Type}:Option ρ→bN Unit ρ|some r=> .ret r|none=> .cu ()
theorem r9{α ρ:Type}{l:List α}(g:Nat→α→Option ρ){step:Int→Option (cj Int (bN Unit ρ))}(hs:∀i(h:i<l.length),step (i:Int)=some (match g i l[i]with|some r=> .out (.ret r)|none=> .next ((i+1:Nat):Int)))(he:step (l.length:Int)=some (.out (.cu ()))):Loop (fun s=>step s) 0=some (kV (fP g 0 l)):=by have:=SQ (l:=l) (σ:=Unit) (bU:=bN Unit ρ) (fun _ i=>i) (fun i _ x=>match g i x with|some r=> .inl (.ret r)|none=> .inr ()) (fun _=> .cu ()) (fun _ _=>True) (step:=step) (fun i s h _=>by have:=hs i h;cases hg:g i l[i]with|some r=>(simp only[hg]at this⊢;exact this)|none=>simp only[hg]at this⊢;exact⟨this,trivial⟩) (fun s _=>he) (e3:=()) trivial;rw[this];congr 1;generalize 0=i;clear this hs he;induction l generalizing i with|nil=>(rfl)|cons x l ih=>simp only[run,fP];cases g i x with|some r=>(rfl)|none=>exact ih (i+1)
def Fm{α:Type}(g:Nat→α→Int):Nat→List α→Int|_,[]=>0|i,x::l=>if g i x !=0 then g i x else Fm g (i+1) l
theorem XE{α:Type}(g:Nat→α→Int):∀(l:List α)(i:Nat),fP (fun i x=>if g i x !=0 then some (g i x)else none) i l=if Fm g i l !=0 then some (Fm g i l)else none|[],_=>rfl|x::l,i=>by simp only[fP,Fm];by_cases hg:g i x=0;·{simpa[hg]using XE g l (i+1)};·simp[hg]
theorem Nn{α ρ:Type}(p:α→Bool)(r:ρ):∀(l:List α)(i:Nat),fP (fun _ x=>if p x then none else some r) i l=if l.all p then none else some r|[],_=>rfl|x::l,i=>by simp only[fP,List.all_cons];by_cases hp:p x=true;·{simpa[hp]using Nn p r l (i+1)};·simp[hp]
end Go.Ab
