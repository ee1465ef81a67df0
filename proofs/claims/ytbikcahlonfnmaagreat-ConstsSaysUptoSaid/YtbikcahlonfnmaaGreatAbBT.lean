import Derived.Test.YtbikcahlonfnmaaGreatAbFn
namespace Go.Ab
open Go
inductive g7(α:Type)where|l(v:α)|o(k:Nat)(v w:α)|n(k:Nat)(a b:g7 α)
def g7.get{α:Type}:g7 α→Nat→α| .l v,_=>v| .o k v w,i=>bif Nat.beq i k then v else w| .n k a b,i=>bif Nat.blt i k then a.get i else b.get i
def g7.all{α:Type}(p:α→Bool):g7 α→Bool| .l v=>p v| .o _ v w=>p v&&p w| .n _ a b=>a.all p&&b.all p
theorem g7.tu{α:Type}{p:α→Bool}:∀(t:g7 α),t.all p=true→∀i,p (t.get i)=true| .l v,h,i=>h| .o k v w,h,i=>by{simp only[g7.all,Bool.and_eq_true]at h;simp only[g7.get];cases Nat.beq i k;·{exact h.2};·exact h.1}| .n k a b,h,i=>by simp only[g7.all,Bool.and_eq_true]at h;simp only[g7.get];cases Nat.blt i k;·{exact tu b h.2 i};·exact tu a h.1 i
def look{α:Type}:List (Nat×α)→Nat→α→α|[],_,d=>d|(k,v)::l,j,d=>bif Nat.beq j k then v else look l j d
def BK{α:Type}:List (Nat×α)→Nat→Option α|[],_=>none|(k,v)::l,j=>bif Nat.beq j k then some v else BK l j
def Kw(l:List (Nat×List Nat)):Bool:=l.all fun x=>decide x.2.Nodup&& !x.2.contains jm
def Dy(l:List (Nat×Bool×List Nat)):Bool:=l.all fun x=>decide x.2.2.Nodup&& !x.2.2.contains jm
theorem Vu{v:List Nat}(h:v.Nodup∧(!v.contains jm)=true):fL v:=⟨h.1,by simpa using h.2⟩
theorem agt{l:List (Nat×List Nat)}(h:Kw l=true)(i:Nat):fL (look l i []):=by induction l with|nil=>(exact fL.nil)|cons x l ih=>simp only[Kw,List.all_cons,Bool.and_eq_true,decide_eq_true_eq]at h;obtain⟨k,v⟩:=x;simp only[look];cases Nat.beq i k;·{exact ih h.2};·exact Vu h.1
theorem Nh{l:List (Nat×Bool×List Nat)}(h:Dy l=true){i:Nat}{b:Bool}{s:List Nat}(e:BK l i=some (b,s)):fL s:=by induction l with|nil=>(cases e)|cons x l ih=>simp only[Dy,List.all_cons,Bool.and_eq_true,decide_eq_true_eq]at h;obtain⟨k,v⟩:=x;simp only[BK]at e;cases hb:Nat.beq i k;·{rw[hb]at e;exact ih h.2 e};·rw[hb]at e;simp only[cond_true,Option.some.injEq]at e;subst e;exact Vu h.1
end Go.Ab
