import Derived.Test.YtmboghefgckkpaaGreatAbFn
namespace Go.Ab
open Go
inductive iW(α:Type)where|l(v:α)|o(k:Nat)(v w:α)|n(k:Nat)(a b:iW α)
def iW.get{α:Type}:iW α→Nat→α| .l v,_=>v| .o k v w,i=>bif Nat.beq i k then v else w| .n k a b,i=>bif Nat.blt i k then a.get i else b.get i
def iW.all{α:Type}(p:α→Bool):iW α→Bool| .l v=>p v| .o _ v w=>p v&&p w| .n _ a b=>a.all p&&b.all p
theorem iW.vb{α:Type}{p:α→Bool}:∀(t:iW α),t.all p=true→∀i,p (t.get i)=true| .l v,h,i=>h| .o k v w,h,i=>by{simp only[iW.all,Bool.and_eq_true]at h;simp only[iW.get];cases Nat.beq i k;·{exact h.2};·exact h.1}| .n k a b,h,i=>by simp only[iW.all,Bool.and_eq_true]at h;simp only[iW.get];cases Nat.blt i k;·{exact vb b h.2 i};·exact vb a h.1 i
def look{α:Type}:List (Nat×α)→Nat→α→α|[],_,d=>d|(k,v)::l,j,d=>bif Nat.beq j k then v else look l j d
def Ck{α:Type}:List (Nat×α)→Nat→Option α|[],_=>none|(k,v)::l,j=>bif Nat.beq j k then some v else Ck l j
def LC(l:List (Nat×List Nat)):Bool:=l.all fun x=>decide x.2.Nodup&& !x.2.contains kj
def EE(l:List (Nat×Bool×List Nat)):Bool:=l.all fun x=>decide x.2.2.Nodup&& !x.2.2.contains kj
theorem WR{v:List Nat}(h:v.Nodup∧(!v.contains kj)=true):gj v:=⟨h.1,by simpa using h.2⟩
theorem ai0{l:List (Nat×List Nat)}(h:LC l=true)(i:Nat):gj (look l i []):=by induction l with|nil=>(exact gj.nil)|cons x l ih=>simp only[LC,List.all_cons,Bool.and_eq_true,decide_eq_true_eq]at h;obtain⟨k,v⟩:=x;simp only[look];cases Nat.beq i k;·{exact ih h.2};·exact WR h.1
theorem Og{l:List (Nat×Bool×List Nat)}(h:EE l=true){i:Nat}{b:Bool}{s:List Nat}(e:Ck l i=some (b,s)):gj s:=by induction l with|nil=>(cases e)|cons x l ih=>simp only[EE,List.all_cons,Bool.and_eq_true,decide_eq_true_eq]at h;obtain⟨k,v⟩:=x;simp only[Ck]at e;cases hb:Nat.beq i k;·{rw[hb]at e;exact ih h.2 e};·rw[hb]at e;simp only[cond_true,Option.some.injEq]at e;subst e;exact WR h.1
end Go.Ab
