import Derived.Test.YtkmdadjmdgonbaaGreatDoorAbCall
set_option linter.all false
namespace Go.Ab
open Go
def MD(P:Program)(k:FuncId)(p:Nat×Nat):Prop:=∀(w:World)(b o b2 o2 len cap:Nat),w.cell? ⟨b,o+p.1,none⟩=some (.slice (some ⟨b2,o2,none⟩) len cap)->0<len->len<=uW->len<=cap->EJ P k #[.pointer (some ⟨b,o,none⟩)] w fun v w'=>(∃n,w'=w.drewN n)∧v= .pointer (some ⟨b2,o2+(len-1)*p.2,none⟩)
structure jJ(C:aC):Prop where
 no:so C.P
 path:∀k p,C.path k=some p->MD C.P k p
 look:∀k,C.look k=true->HK C k:=by intro k h;cases h
section
variable{C:aC}{E:Env}{w:World}{S:ah}{a:Act}{β:Id->Option Loc}{F:Id->List Nat}
variable{next:Act->World->Prop}{Q:Exit->Act->World->Prop}
theorem ay.at{I:Nat->Prop}:∀{as:List U}{f:List Nat}{vs:List Value}{k:Nat}{x:U},ay w I β f vs as->as[k]? =some x->∃v f',vs[k]? =some v∧R w I β f' v x|[],_,_,k,x,_,h=>by{simp at h}|a::as,f,vs,0,x,hr,h=>by{simp only[List.getElem?_cons_zero,Option.some.injEq]at h;subst h;obtain⟨f1,f2,v,vs',rfl,rfl,h1,_⟩:=hr.cons_inv;exact⟨v,f1,rfl,h1⟩}|a::as,f,vs,k+1,x,hr,h=>by simp only[List.getElem?_cons_succ]at h;obtain⟨f1,f2,v,vs',rfl,rfl,_,h2⟩:=hr.cons_inv;obtain⟨v',f',e,hx⟩:=ay.at h2 h;exact⟨v',f',by simpa using e,hx⟩
theorem aK.drewN(h:aK C E w S a β F)(n:Nat):aK C E (w.drewN n) S a β F:=h.step (fun _=>False) h.n (Nat.le_refl _) rfl rfl (fun _=>rfl) (fun _ _ _=>rfl) (fun _ _ h=>h) (fun id b hb=> .inl ⟨id,hb⟩) (fun _ _=>⟨rfl,rfl⟩) (fun _ _ h=>h.elim) (fun _ h=>h.elim) (fun _ h=>h.elim) (fun _ _ _ h=>h.elim) h.dom (fun _ _=> .inl ⟨rfl,rfl⟩)
theorem aem(hN:so C.P)(h:aK C E w S a β F){o:Oper}{c:Call}{k:FuncId}(ho:o.op= .call c)(hc:c.callee= .value (.func k)){p:Nat×Nat}(hp:MD C.P k p){e:aP}(he:uD S o p (c.args.toList.map fun x=>un true (S.get C x))=some e)(hd:cE S e)(hn:∀a' w',aY C E (S.app e) a' w'->next a' w'):o.wp C.P a w next Q:=by simp[uD]at he
theorem aed(h:aK C E w S a β F){o:Oper}{c:Call}(ho:o.op= .call c)(hb:c.callee= .builtin .copy){e:aP}(he:wu C S o c.argTypes (c.args.toList.map fun x=>un true (S.get C x))=some e)(hd:cE S e)(hn:∀a' w',aY C E (S.app e) a' w'->next a' w'):o.wp C.P a w next Q:=by simp[wu]at he
end
end Go.Ab
