import Derived.Test.YtmboghefgckkpaaGreatAbV4
namespace Go.Ab
open Go
theorem eo{n:Int}(h1:-9223372036854775808≤n)(h2:n<9223372036854775808):aO n=n:=by simp only[aO,IntKind.wrap,IntKind.bits,IntKind.signed];simp;split<;>omega
theorem e5{i:Nat}(h:i<9223372036854775807):aO ((i:Int)+1)=((i+1:Nat):Int):=by rw[eo (by omega) (by omega)];rfl
theorem kg{α:Type}{l:List α}{i:Nat}(h:i<l.length):idx l (i:Int)=some l[i]:=by unfold idx;rw[if_pos (by omega)];simp[h]
theorem mJ{α:Type}{x:α}{l:List α}:idx (x::l) 0=some x:=rfl
theorem uc{α:Type}{x y:α}{l:List α}:idx (x::y::l) 1=some y:=rfl
def run{σ ck α:Type}(f:Nat→σ→α→ck⊕σ)(e:σ→ck):Nat→σ→List α→ck|_,s,[]=>e s|i,s,x::l=>match f i s x with| .inl o=>o| .inr s'=>run f e (i+1) s' l
theorem Yi{σ ck α S:Type}{l:List α}(pack:σ→Int→S)(f:Nat→σ→α→ck⊕σ)(e:σ→ck)(Inv:Nat→σ→Prop){step:S→Option (cx S ck)}(hs:∀i s(h:i<l.length),Inv i s→match f i s l[i]with| .inl o=>step (pack s (i:Int))=some (.out o)| .inr s'=>step (pack s (i:Int))=some (.next (pack s' ((i+1:Nat):Int)))∧Inv (i+1) s')(he:∀s,Inv l.length s→step (pack s (l.length:Int))=some (.out (e s))){e9:σ}(h0:Inv 0 e9):Loop step (pack e9 0)=some (run f e 0 e9 l):=by have key:∀k i s,l.length-i=k→i≤l.length→Inv i s→Loop step (pack s (i:Int))=some (run f e i s (l.drop i)):=by{intro k;induction k with|zero=>(intro i s hk hi hI;obtain rfl:i=l.length:=by{omega};rw[dX,he s hI,List.drop_length];rfl)|succ k ih=>intro i s hk hi hI;have hlt:i<l.length:=by{omega};have h1:=hs i s hlt hI;rw[dX,List.drop_eq_getElem_cons hlt];unfold run;split at h1;·{rw[h1];rfl};·rename_i s' ho;rw[h1.1];exact ih (i+1) s' (by omega) (by omega) h1.2};exact key _ 0 e9 rfl (by omega) h0
def gP{α ρ:Type}(g:Nat→α→Option ρ):Nat→List α→Option ρ|_,[]=>none|i,x::l=>match g i x with|some r=>some r|none=>gP g (i+1) l
def m5{ρ:Type}:Option ρ→b5 Unit ρ|some r=> .ret r|none=> .cF ()
theorem uU{α ρ:Type}{l:List α}(g:Nat→α→Option ρ){step:Int→Option (cx Int (b5 Unit ρ))}(hs:∀i(h:i<l.length),step (i:Int)=some (match g i l[i]with|some r=> .out (.ret r)|none=> .next ((i+1:Nat):Int)))(he:step (l.length:Int)=some (.out (.cF ()))):Loop (fun s=>step s) 0=some (m5 (gP g 0 l)):=by have:=Yi (l:=l) (σ:=Unit) (ck:=b5 Unit ρ) (fun _ i=>i) (fun i _ x=>match g i x with|some r=> .inl (.ret r)|none=> .inr ()) (fun _=> .cF ()) (fun _ _=>True) (step:=step) (fun i s h _=>by have:=hs i h;cases hg:g i l[i]with|some r=>(simp only[hg]at this⊢;exact this)|none=>simp only[hg]at this⊢;exact⟨this,trivial⟩) (fun s _=>he) (e9:=()) trivial;rw[this];congr 1;generalize 0=i;clear this hs he;induction l generalizing i with|nil=>(rfl)|cons x l ih=>simp only[run,gP];cases g i x with|some r=>(rfl)|none=>exact ih (i+1)
def Jl{α:Type}(g:Nat→α→Int):Nat→List α→Int|_,[]=>0|i,x::l=>if g i x !=0 then g i x else Jl g (i+1) l
theorem aee{α:Type}(g:Nat→α→Int):∀(l:List α)(i:Nat),gP (fun i x=>if g i x !=0 then some (g i x)else none) i l=if Jl g i l !=0 then some (Jl g i l)else none|[],_=>rfl|x::l,i=>by simp only[gP,Jl];by_cases hg:g i x=0;·{simpa[hg]using aee g l (i+1)};·simp[hg]
theorem Sr{α ρ:Type}(p:α→Bool)(r:ρ):∀(l:List α)(i:Nat),gP (fun _ x=>if p x then none else some r) i l=if l.all p then none else some r|[],_=>rfl|x::l,i=>by simp only[gP,List.all_cons];by_cases hp:p x=true;·{simpa[hp]using Sr p r l (i+1)};·simp[hp]
end Go.Ab
