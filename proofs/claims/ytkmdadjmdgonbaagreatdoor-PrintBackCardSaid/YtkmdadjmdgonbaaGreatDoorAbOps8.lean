import Derived.Test.YtkmdadjmdgonbaaGreatDoorAbCall
open Bool renaming true->bv,false->ci
open Option renaming some->ac,none->am
set_option linter.all false
namespace Go.Ab
open Go
def OH(P:Program)(k:FuncId)(p:Nat×Nat):Prop:=∀(w:World)(b o b2 o2 len cap:Nat),w.cell? ⟨b,o+p.1,am⟩=ac (.slice (ac ⟨b2,o2,am⟩) len cap)->0<len->len<=uZ->len<=cap->F7 P k #[.pointer (ac ⟨b,o,am⟩)] w λv w'=>(∃n,w'=w.drewN n)∧v= .pointer (ac ⟨b2,o2+(len-1)*p.2,am⟩)
structure ke(C:aH):Prop where
 no:tZ C.P
 path:∀k p,C.path k=ac p->OH C.P k p
 look:∀k,C.look k=bv->Je C k:=by intro k h;cases h
section
variable{C:aH}{E:Env}{w:World}{S:ai}{a:Act}{β:Id->Option Loc}{F:Id->List Nat}
variable{next:Act->World->Prop}{Q:Exit->Act->World->Prop}
theorem aB.at{I:Nat->Prop}:∀{as:List U}{f:List Nat}{vs:List Value}{k:Nat}{x:U},aB w I β f vs as->as[k]? =ac x->∃v f',vs[k]? =ac v∧R w I β f' v x|[],_,_,k,x,_,h=>by{simp at h}|a::as,f,vs,0,x,hr,h=>by{simp only[List.getElem?_cons_zero,Option.some.injEq]at h;subst h;obtain⟨f1,f2,v,vs',rfl,rfl,h1,_⟩:=hr.cons_inv;exact⟨v,f1,rfl,h1⟩}|a::as,f,vs,k+1,x,hr,h=>by simp only[List.getElem?_cons_succ]at h;obtain⟨f1,f2,v,vs',rfl,rfl,_,h2⟩:=hr.cons_inv;obtain⟨v',f',e,hx⟩:=aB.at h2 h;exact⟨v',f',by simpa using e,hx⟩
theorem aW.drewN(h:aW C E w S a β F)(n:Nat):aW C E (w.drewN n) S a β F:=h.step (λ_=>False) h.n (Nat.le_refl _) rfl rfl (λ_=>rfl) (λ_ _ _=>rfl) (λ_ _ h=>h) (λid b hb=> .inl ⟨id,hb⟩) (λ_ _=>⟨rfl,rfl⟩) (λ_ _ h=>h.elim) (λ_ h=>h.elim) (λ_ h=>h.elim) (λ_ _ _ h=>h.elim) h.dom (λ_ _=> .inl ⟨rfl,rfl⟩)
theorem aix(hN:tZ C.P)(h:aW C E w S a β F){o:Oper}{c:Call}{k:FuncId}(ho:o.op= .call c)(hc:c.callee= .value (.func k)){p:Nat×Nat}(hp:OH C.P k p){e:bg}(he:v8 S o p (c.args.toList.map λx=>un bv (S.get C x))=ac e):gk C E S a w next Q e o:=by intro hd hn;simp[v8]at he
theorem aio(h:aW C E w S a β F){o:Oper}{c:Call}(ho:o.op= .call c)(hb:c.callee= .builtin .copy){e:bg}(he:yj C S o c.argTypes (c.args.toList.map λx=>un bv (S.get C x))=ac e):gk C E S a w next Q e o:=by intro hd hn;simp[yj]at he
end
end Go.Ab
