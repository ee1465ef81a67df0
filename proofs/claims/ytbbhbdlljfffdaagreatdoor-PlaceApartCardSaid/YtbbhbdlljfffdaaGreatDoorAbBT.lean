import Derived.Test.YtbbhbdlljfffdaaGreatDoorAbFn
open Bool renaming and_eq_true→GT
open List renaming all_cons→Ha
open Nat renaming beq→GE
set_option linter.all false
namespace Go.Ab
open Go
inductive iD(α:Type)where|l(v:α)|o(k:Nat)(v w:α)|n(k:Nat)(a b:iD α)
def iD.get{α:Type}:iD α→Nat→α| .l v,_=>v| .o k v w,i=>bif GE i k then v else w| .n k a b,i=>bif Nat.blt i k then a.get i else b.get i
def iD.all{α:Type}(p:α→Bool):iD α→Bool| .l v=>p v| .o _ v w=>p v&&p w| .n _ a b=>a.all p&&b.all p
theorem iD.sI{α:Type}{p:α→Bool}:∀(t:iD α),t.all p=true→∀i,p (t.get i)=true| .l v,h,i=>h| .o k v w,h,i=>by{simp only[iD.all,GT]at h;simp only[iD.get];cases GE i k;·{exact h.2};·exact h.1}| .n k a b,h,i=>by simp only[iD.all,GT]at h;simp only[iD.get];cases Nat.blt i k;·{exact sI b h.2 i};·exact sI a h.1 i
def look{α:Type}:List (Nat×α)→Nat→α→α|[],_,d=>d|(k,v)::l,j,d=>bif GE j k then v else look l j d
def At{α:Type}:List (Nat×α)→Nat→Option α|[],_=>none|(k,v)::l,j=>bif GE j k then some v else At l j
def Ir(l:List (Nat×List Nat)):Bool:=l.all fun x=>decide x.2.Nodup&& !x.2.contains iL
def BL(l:List (Nat×Bool×List Nat)):Bool:=l.all fun x=>decide x.2.2.Nodup&& !x.2.2.contains iL
theorem Ux{v:List Nat}(h:v.Nodup∧(!v.contains iL)=true):fR v:=⟨h.1,by simpa using h.2⟩
theorem agm{l:List (Nat×List Nat)}(h:Ir l=true)(i:Nat):fR (look l i []):=by induction l with|nil=>(exact fR.nil)|cons x l ih=>simp only[Ir,Ha,GT,decide_eq_true_eq]at h;obtain⟨k,v⟩:=x;simp only[look];cases GE i k;·{exact ih h.2};·exact Ux h.1
theorem K7{l:List (Nat×Bool×List Nat)}(h:BL l=true){i:Nat}{b:Bool}{s:List Nat}(e:At l i=some (b,s)):fR s:=by induction l with|nil=>(cases e)|cons x l ih=>simp only[BL,Ha,GT,decide_eq_true_eq]at h;obtain⟨k,v⟩:=x;simp only[At]at e;cases hb:GE i k;·{rw[hb]at e;exact ih h.2 e};·rw[hb]at e;simp only[cond_true,Option.some.injEq]at e;subst e;exact Ux h.1
end Go.Ab
