import Derived.Test.YtbbhbdlljfffdaaGreatDoorAbFn
open Bool renaming and_eq_true→GT
open List renaming all_cons→Ha
open Nat renaming beq→GE
set_option linter.all false
namespace Go.Ab
open Go
inductive fU(α:Type)where|l(v:α)|o(k:Nat)(v w:α)|n(k:Nat)(a b:fU α)
def fU.get{α:Type}:fU α→Nat→α| .l v,_=>v| .o k v w,i=>bif GE i k then v else w| .n k a b,i=>bif Nat.blt i k then a.get i else b.get i
def fU.all{α:Type}(p:α→Bool):fU α→Bool| .l v=>p v| .o _ v w=>p v&&p w| .n _ a b=>a.all p&&b.all p
theorem fU.sW{α:Type}{p:α→Bool}:∀(t:fU α),t.all p=true→∀i,p (t.get i)=true| .l v,h,i=>h| .o k v w,h,i=>by{simp only[fU.all,GT]at h;simp only[fU.get];cases GE i k;·{exact h.2};·exact h.1}| .n k a b,h,i=>by simp only[fU.all,GT]at h;simp only[fU.get];cases Nat.blt i k;·{exact sW b h.2 i};·exact sW a h.1 i
def look{α:Type}:List (Nat×α)→Nat→α→α|[],_,d=>d|(k,v)::l,j,d=>bif GE j k then v else look l j d
def tZ{α:Type}:List (Nat×α)→Nat→Option α|[],_=>none|(k,v)::l,j=>bif GE j k then some v else tZ l j
def A5(l:List (Nat×List Nat)):Bool:=l.all fun x=>decide x.2.Nodup&& !x.2.contains fX
def u5(l:List (Nat×Bool×List Nat)):Bool:=l.all fun x=>decide x.2.2.Nodup&& !x.2.2.contains fX
theorem K3{v:List Nat}(h:v.Nodup∧(!v.contains fX)=true):eE v:=⟨h.1,by simpa using h.2⟩
theorem U6{l:List (Nat×List Nat)}(h:A5 l=true)(i:Nat):eE (look l i []):=by induction l with|nil=>(exact eE.nil)|cons x l ih=>simp only[A5,Ha,GT,decide_eq_true_eq]at h;obtain⟨k,v⟩:=x;simp only[look];cases GE i k;·{exact ih h.2};·exact K3 h.1
theorem De{l:List (Nat×Bool×List Nat)}(h:u5 l=true){i:Nat}{b:Bool}{s:List Nat}(e:tZ l i=some (b,s)):eE s:=by induction l with|nil=>(cases e)|cons x l ih=>simp only[u5,Ha,GT,decide_eq_true_eq]at h;obtain⟨k,v⟩:=x;simp only[tZ]at e;cases hb:GE i k;·{rw[hb]at e;exact ih h.2 e};·rw[hb]at e;simp only[cond_true,Option.some.injEq]at e;subst e;exact K3 h.1
end Go.Ab
