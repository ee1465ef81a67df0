import Derived.Test.YtbhpblokoecoaaaAbFn
namespace Go.Ab
open Go
inductive jd(α:Type)where|l(v:α)|o(k:Nat)(v w:α)|n(k:Nat)(a b:jd α)
def jd.get{α:Type}:jd α→Nat→α| .l v,_=>v| .o k v w,i=>bif Nat.beq i k then v else w| .n k a b,i=>bif Nat.blt i k then a.get i else b.get i
def jd.all{α:Type}(p:α→Bool):jd α→Bool| .l v=>p v| .o _ v w=>p v&&p w| .n _ a b=>a.all p&&b.all p
theorem jd.sn{α:Type}{p:α→Bool}:∀(t:jd α),t.all p=true→∀i,p (t.get i)=true| .l v,h,i=>h| .o k v w,h,i=>by{simp only[jd.all,Bool.and_eq_true]at h;simp only[jd.get];cases Nat.beq i k;·{exact h.2};·exact h.1}| .n k a b,h,i=>by simp only[jd.all,Bool.and_eq_true]at h;simp only[jd.get];cases Nat.blt i k;·{exact sn b h.2 i};·exact sn a h.1 i
def look{α:Type}:List (Nat×α)→Nat→α→α|[],_,d=>d|(k,v)::l,j,d=>bif Nat.beq j k then v else look l j d
def zK{α:Type}:List (Nat×α)→Nat→Option α|[],_=>none|(k,v)::l,j=>bif Nat.beq j k then some v else zK l j
def HH(l:List (Nat×List Nat)):Bool:=l.all fun x=>decide x.2.Nodup
def BH(l:List (Nat×Bool×List Nat)):Bool:=l.all fun x=>decide x.2.2.Nodup
theorem abH{l:List (Nat×List Nat)}(h:HH l=true)(i:Nat):(look l i []).Nodup:=by induction l with|nil=>(exact List.nodup_nil)|cons x l ih=>simp only[HH,List.all_cons,Bool.and_eq_true,decide_eq_true_eq]at h;obtain⟨k,v⟩:=x;simp only[look];cases Nat.beq i k;·{exact ih h.2};·exact h.1
theorem Kj{l:List (Nat×Bool×List Nat)}(h:BH l=true){i:Nat}{b:Bool}{s:List Nat}(e:zK l i=some (b,s)):s.Nodup:=by induction l with|nil=>(cases e)|cons x l ih=>simp only[BH,List.all_cons,Bool.and_eq_true,decide_eq_true_eq]at h;obtain⟨k,v⟩:=x;simp only[zK]at e;cases hb:Nat.beq i k;·{rw[hb]at e;exact ih h.2 e};·rw[hb]at e;simp only[cond_true,Option.some.injEq]at e;subst e;exact h.1
end Go.Ab
