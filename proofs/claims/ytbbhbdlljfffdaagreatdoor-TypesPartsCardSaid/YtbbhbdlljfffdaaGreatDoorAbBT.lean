import Derived.Test.YtbbhbdlljfffdaaGreatDoorAbFn
open Bool renaming and_eq_true→Do
open List renaming all_cons→GE
open Nat renaming beq→AC
set_option linter.all false
namespace Go.Ab
open Go
inductive iu(α:Type)where|l(v:α)|o(k:Nat)(v w:α)|n(k:Nat)(a b:iu α)
def iu.get{α:Type}:iu α→Nat→α| .l v,_=>v| .o k v w,i=>bif AC i k then v else w| .n k a b,i=>bif Nat.blt i k then a.get i else b.get i
def iu.all{α:Type}(p:α→Bool):iu α→Bool| .l v=>p v| .o _ v w=>p v&&p w| .n _ a b=>a.all p&&b.all p
theorem iu.si{α:Type}{p:α→Bool}:∀(t:iu α),t.all p=true→∀i,p (t.get i)=true| .l v,h,i=>h| .o k v w,h,i=>by{simp only[iu.all,Do]at h;simp only[iu.get];cases AC i k;·{exact h.2};·exact h.1}| .n k a b,h,i=>by simp only[iu.all,Do]at h;simp only[iu.get];cases Nat.blt i k;·{exact si b h.2 i};·exact si a h.1 i
def look{α:Type}:List (Nat×α)→Nat→α→α|[],_,d=>d|(k,v)::l,j,d=>bif AC j k then v else look l j d
def zE{α:Type}:List (Nat×α)→Nat→Option α|[],_=>none|(k,v)::l,j=>bif AC j k then some v else zE l j
def Hg(l:List (Nat×List Nat)):Bool:=l.all fun x=>decide x.2.Nodup&& !x.2.contains iD
def AU(l:List (Nat×Bool×List Nat)):Bool:=l.all fun x=>decide x.2.2.Nodup&& !x.2.2.contains iD
theorem Tg{v:List Nat}(h:v.Nodup∧(!v.contains iD)=true):fB v:=⟨h.1,by simpa using h.2⟩
theorem aeN{l:List (Nat×List Nat)}(h:Hg l=true)(i:Nat):fB (look l i []):=by induction l with|nil=>(exact fB.nil)|cons x l ih=>simp only[Hg,GE,Do,decide_eq_true_eq]at h;obtain⟨k,v⟩:=x;simp only[look];cases AC i k;·{exact ih h.2};·exact Tg h.1
theorem Kn{l:List (Nat×Bool×List Nat)}(h:AU l=true){i:Nat}{b:Bool}{s:List Nat}(e:zE l i=some (b,s)):fB s:=by induction l with|nil=>(cases e)|cons x l ih=>simp only[AU,GE,Do,decide_eq_true_eq]at h;obtain⟨k,v⟩:=x;simp only[zE]at e;cases hb:AC i k;·{rw[hb]at e;exact ih h.2 e};·rw[hb]at e;simp only[cond_true,Option.some.injEq]at e;subst e;exact Tg h.1
end Go.Ab
