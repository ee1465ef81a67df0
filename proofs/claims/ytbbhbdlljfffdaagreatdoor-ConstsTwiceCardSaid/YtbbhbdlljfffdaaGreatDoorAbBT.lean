import Derived.Test.YtbbhbdlljfffdaaGreatDoorAbFn
open Bool renaming and_eq_true→GT
open List renaming all_cons→Ha
open Nat renaming beq→GE
set_option linter.all false
namespace Go.Ab
open Go
inductive fT(α:Type)where|l(v:α)|o(k:Nat)(v w:α)|n(k:Nat)(a b:fT α)
def fT.get{α:Type}:fT α→Nat→α| .l v,_=>v| .o k v w,i=>bif GE i k then v else w| .n k a b,i=>bif Nat.blt i k then a.get i else b.get i
def fT.all{α:Type}(p:α→Bool):fT α→Bool| .l v=>p v| .o _ v w=>p v&&p w| .n _ a b=>a.all p&&b.all p
theorem fT.uq{α:Type}{p:α→Bool}:∀(t:fT α),t.all p=true→∀i,p (t.get i)=true| .l v,h,i=>h| .o k v w,h,i=>by{simp only[fT.all,GT]at h;simp only[fT.get];cases GE i k;·{exact h.2};·exact h.1}| .n k a b,h,i=>by simp only[fT.all,GT]at h;simp only[fT.get];cases Nat.blt i k;·{exact uq b h.2 i};·exact uq a h.1 i
def look{α:Type}:List (Nat×α)→Nat→α→α|[],_,d=>d|(k,v)::l,j,d=>bif GE j k then v else look l j d
def vw{α:Type}:List (Nat×α)→Nat→Option α|[],_=>none|(k,v)::l,j=>bif GE j k then some v else vw l j
def C5(l:List (Nat×List Nat)):Bool:=l.all fun x=>decide x.2.Nodup&& !x.2.contains fY
def w5(l:List (Nat×Bool×List Nat)):Bool:=l.all fun x=>decide x.2.2.Nodup&& !x.2.2.contains fY
theorem Ny{v:List Nat}(h:v.Nodup∧(!v.contains fY)=true):eA v:=⟨h.1,by simpa using h.2⟩
theorem Yz{l:List (Nat×List Nat)}(h:C5 l=true)(i:Nat):eA (look l i []):=by induction l with|nil=>(exact eA.nil)|cons x l ih=>simp only[C5,Ha,GT,decide_eq_true_eq]at h;obtain⟨k,v⟩:=x;simp only[look];cases GE i k;·{exact ih h.2};·exact Ny h.1
theorem FE{l:List (Nat×Bool×List Nat)}(h:w5 l=true){i:Nat}{b:Bool}{s:List Nat}(e:vw l i=some (b,s)):eA s:=by induction l with|nil=>(cases e)|cons x l ih=>simp only[w5,Ha,GT,decide_eq_true_eq]at h;obtain⟨k,v⟩:=x;simp only[vw]at e;cases hb:GE i k;·{rw[hb]at e;exact ih h.2 e};·rw[hb]at e;simp only[cond_true,Option.some.injEq]at e;subst e;exact Ny h.1
end Go.Ab
