import Derived.Test.YtkmdadjmdgonbaaGreatDoorAbGr
open Array renaming getD_eq_getD_getElem?->GE
open Bool renaming false_eq_true->Do
open Option renaming bind_eq_some_iff->A0,map_eq_some_iff->A1
open Option.some renaming injEq->AC
set_option linter.all false
namespace Go.Ab
open Go
section
variable{C:aC}{E:Env}{w:World}{S:ah}{a:Act}{β:Id->Option Loc}{F:Id->List Nat}
variable{next:Act->World->Prop}{Q:Exit->Act->World->Prop}
theorem Rf(hN:jJ C){f:FuncId}{call:FuncId->List U->Option (U×List U)}(cZ:∀k as r,call k as=some r->Sound C k as r)(h:aK C E w S a β F){o:Oper}{e:aP}(he:bS C f call S true o=some e)(hd:cE S e)(hn:∀a' w',aY C E (S.app e) a' w'->next a' w'):o.wp C.P a w next Q:=by unfold bS at he;split at he;·{rename_i x ho;exact Re h (.inl ho) he hd hn};·{rename_i x ho;exact Re h (.inr ho) he hd hn};·{rename_i c x y ho;exact aev h ho he hd hn};·{rename_i t ho;exact adV h ho he hd hn};·{rename_i t x ho;exact ad2 h ho he hd hn};·{rename_i t p ho;exact ad3 h ho he hd hn};·{rename_i t n p ho;exact ad5 h ho he hd hn};·{rename_i t x ho;exact aeo h ho he hd hn};·{rename_i t x y ho;exact aey h ho he hd hn};·{rename_i x ho;exact aeu h ho he hd hn};·{rename_i ho;exact adZ h ho he hd hn};·{rename_i ho;exact aez h ho he hd hn};·{rename_i ho;exact aeb h ho he hd hn};·{rename_i ho;exact aej h ho he hd hn};·{rename_i ho;exact aes h ho he hd hn};·{rename_i ho;exact aer h ho he hd hn};·{rename_i t x lo hi mx ho;cases mx with|none=>(exact ok_slice h ho (by simpa using he) hd hn)|some m=>simp at he};·{rename_i ho;exact aeh h ho he hd hn};·{rename_i ho;exact aeg h ho he hd hn};·{rename_i ho;exact ael h ho he hd hn};·{rename_i ho;exact aek h ho he hd hn};·{rename_i ho;exact aef h ho he hd hn};·{rename_i ho;exact adY h ho he hd hn};·{rename_i ho;exact aet h ho he hd hn};·{rename_i ho;exact aeq h ho he hd hn};·{rename_i ho;exact Rd h (.inl ho) he hd hn};·{rename_i ho;exact Rd h (.inr ho) he hd hn};·{rename_i c ho;split at he;·{rename_i hc;exact aen h ho hc he hd hn};·{rename_i hc;exact adW h ho hc he hd hn};·{rename_i hc;exact aed h ho hc he hd hn};·{rename_i hc;split at he;·{rename_i vs hv;exact Rj h ho hc _ (fun _ _=>rfl) hv he hd hn};·cases he};·{rename_i hc;split at he;·{rename_i vs hv;exact Rj h ho hc _ (fun _ _=>rfl) hv he hd hn};·cases he};·{rename_i cS hc;split at he;·{rename_i x ef;exact ad8 hN.no h ho hc cZ ef he hd hn};·rename_i ef;split at he;·{rename_i p hp;unfold pathOf at hp;split at hp;·{exact aem hN.no h ho hc (hN.path _ _ hp) he hd hn};·cases hp};·split at he;·{split at he;·{rename_i k;refine aea hN.no h ho hc cZ ?_ he hd hn;simp only[ah.get,un,me]at ef;split at ef;·{cases ef};·rename_i hg;simpa using hg};·cases he};·exact ad7 hN.no hN.look h ho hc cZ ef he hd hn};·cases he};·cases he
/-! ### What an operation writes among the slots -/
def Shaped(C:aC)(f:FuncId)(o:Oper)(e:aP):Prop:=(∃v,e.dR=(put o v [] []).dR)∨(e.wr≠[]∧∀x∈e.dR,x.1∈p0 C f o)
theorem dy{C:aC}{f:FuncId}{o:Oper}{v:U}{rd:List Id}{wr:List (Id×Option Rows)}:Shaped C f o (put o v rd wr):= .inl ⟨v,rfl⟩
theorem gX{C:aC}{f:FuncId}{o:Oper}{v:U}{e:aP}(h:ret o v=some e):Shaped C f o e:=by have:=gD h;subst this;exact dy
theorem iX{C:aC}{f:FuncId}{o:Oper}{v:Option Value}{e:aP}(h:lE o v=some e):Shaped C f o e:=by unfold lE at h;split at h;·{split at h;·{exact gX h};·cases h};·cases h
theorem agH{C:aC}{f:FuncId}{o:Oper}{e1 e:aP}(h:sP C f o e1=some e)(h1:Shaped C f o e1):Shaped C f o e:=by unfold sP at h;split at h;·{split at h;·{split at h;·{simp only[AC]at h;subst h;exact dy};·cases h};·{split at h;·{simp only[AC]at h;subst h;exact dy};·cases h};·cases h};·simp only[AC]at h;subst h;exact h1
theorem agI{C:aC}{f:FuncId}{call:FuncId->List U->Option (U×List U)}{S:ah}{o:Oper}{e:aP}{k:FuncId}{args:List U}(he:ri C f call S o k args=some e):Shaped C f o e:=by unfold ri at he;split at he;·{split at he;·{generalize(if fM C f o.dst=true then _ else _)=r' at he;split at he;·{split at he;·{simp only[AC]at he;subst he;exact dy};·cases he};·cases he};·cases he};·cases he
theorem L8{C:aC}{f:FuncId}{call:FuncId->List U->Option (U×List U)}{S:ah}{g:Bool}{o:Oper}{e:aP}(he:bS C f call S g o=some e):Shaped C f o e:=by
 unfold bS at he
 split at he
 ·exact gX he
 ·exact gX he
 ·unfold uE at he
  repeat'(first
   |with_reducible exact gX he
   |with_reducible exact iX he
   |(simp only[reduceCtorEq]at he;done)
   |(simp only[AC]at he;subst he;exact dy)
   |(simp only[A0]at he;obtain⟨_,_,he⟩:=he)
   |(simp only[A1]at he;obtain⟨_,_,he⟩:=he;subst he;exact dy)
   |split at he)
 ·unfold sI at he
  repeat'(first
   |with_reducible exact gX he
   |with_reducible exact iX he
   |(simp only[reduceCtorEq]at he;done)
   |(simp only[AC]at he;subst he;exact dy)
   |(simp only[A0]at he;obtain⟨_,_,he⟩:=he)
   |(simp only[A1]at he;obtain⟨_,_,he⟩:=he;subst he;exact dy)
   |split at he)
 ·unfold qj at he
  repeat'(first
   |with_reducible exact gX he
   |with_reducible exact iX he
   |(simp only[reduceCtorEq]at he;done)
   |(simp only[AC]at he;subst he;exact dy)
   |(simp only[A0]at he;obtain⟨_,_,he⟩:=he)
   |(simp only[A1]at he;obtain⟨_,_,he⟩:=he;subst he;exact dy)
   |split at he)
 ·unfold zk at he
  repeat'(first
   |with_reducible exact gX he
   |with_reducible exact iX he
   |(simp only[reduceCtorEq]at he;done)
   |(simp only[AC]at he;subst he;exact dy)
   |(simp only[A0]at he;obtain⟨_,_,he⟩:=he)
   |(simp only[A1]at he;obtain⟨_,_,he⟩:=he;subst he;exact dy)
   |split at he)
 ·unfold sK B6 uz at he
  repeat'(first
   |with_reducible exact gX he
   |with_reducible exact iX he
   |(simp only[reduceCtorEq]at he;done)
   |(simp only[AC]at he;subst he;exact dy)
   |(simp only[A0]at he;obtain⟨_,_,he⟩:=he)
   |(simp only[A1]at he;obtain⟨_,_,he⟩:=he;subst he;exact dy)
   |split at he)
 ·unfold mT at he
  repeat'(first
   |with_reducible exact gX he
   |with_reducible exact iX he
   |(simp only[reduceCtorEq]at he;done)
   |(simp only[AC]at he;subst he;exact dy)
   |(simp only[A0]at he;obtain⟨_,_,he⟩:=he)
   |(simp only[A1]at he;obtain⟨_,_,he⟩:=he;subst he;exact dy)
   |split at he)
 ·rename_i t ao x ho
  unfold n7 at he
  split at he
  ·split at he
   ·split at he
    ·cases he
    ·split at he
     ·obtain⟨r,_,he⟩:=Option.bind_eq_some_iff.1 he
      split at he
      ·split at he
       ·rename_i ta s7
        split at he
        ·rename_i hc
         simp only[Bool.and_eq_true,Option.isNone_iff_eq_none]at hc
         simp only[AC]at he;subst he
         refine .inr ⟨by simp,fun y hy=> ?_⟩
         obtain rfl:=List.mem_singleton.1 hy
         unfold p0
         simp[ho,s7]
        ·cases he
       ·split at he
        ·simp only[AC]at he;subst he;exact dy
        ·cases he
      ·cases he
     ·cases he
   ·cases he
  ·cases he
 ·unfold B8 at he
  repeat'(first
   |with_reducible exact gX he
   |with_reducible exact iX he
   |(simp only[reduceCtorEq]at he;done)
   |(simp only[AC]at he;subst he;exact dy)
   |(simp only[A0]at he;obtain⟨_,_,he⟩:=he)
   |(simp only[A1]at he;obtain⟨_,_,he⟩:=he;subst he;exact dy)
   |split at he)
 ·unfold sJ at he
  repeat'(first
   |with_reducible exact gX he
   |with_reducible exact iX he
   |(simp only[reduceCtorEq]at he;done)
   |(simp only[AC]at he;subst he;exact dy)
   |(simp only[A0]at he;obtain⟨_,_,he⟩:=he)
   |(simp only[A1]at he;obtain⟨_,_,he⟩:=he;subst he;exact dy)
   |split at he)
 ·unfold wA at he
  repeat'(first
   |with_reducible exact gX he
   |with_reducible exact iX he
   |(simp only[reduceCtorEq]at he;done)
   |(simp only[AC]at he;subst he;exact dy)
   |(simp only[A0]at he;obtain⟨_,_,he⟩:=he)
   |(simp only[A1]at he;obtain⟨_,_,he⟩:=he;subst he;exact dy)
   |split at he)
 ·unfold sL FC B7 at he
  repeat'(first
   |with_reducible exact gX he
   |with_reducible exact iX he
   |(simp only[reduceCtorEq]at he;done)
   |(simp only[AC]at he;subst he;exact dy)
   |(simp only[A0]at he;obtain⟨_,_,he⟩:=he)
   |(simp only[A1]at he;obtain⟨_,_,he⟩:=he;subst he;exact dy)
   |split at he)
 ·unfold uB at he
  repeat'(first
   |with_reducible exact gX he
   |with_reducible exact iX he
   |(simp only[reduceCtorEq]at he;done)
   |(simp only[AC]at he;subst he;exact dy)
   |(simp only[A0]at he;obtain⟨_,_,he⟩:=he)
   |(simp only[A1]at he;obtain⟨_,_,he⟩:=he;subst he;exact dy)
   |split at he)
 ·exact gX he
 ·unfold sN at he
  repeat'(first
   |with_reducible exact gX he
   |with_reducible exact iX he
   |(simp only[reduceCtorEq]at he;done)
   |(simp only[AC]at he;subst he;exact dy)
   |(simp only[A0]at he;obtain⟨_,_,he⟩:=he)
   |(simp only[A1]at he;obtain⟨_,_,he⟩:=he;subst he;exact dy)
   |split at he)
 ·split at he
  ·cases he
  ·unfold ql at he
   repeat'(first
    |with_reducible exact gX he
    |with_reducible exact iX he
    |(simp only[reduceCtorEq]at he;done)
    |(simp only[AC]at he;subst he;exact dy)
    |(simp only[A0]at he;obtain⟨_,_,he⟩:=he)
    |(simp only[A1]at he;obtain⟨_,_,he⟩:=he;subst he;exact dy)
    |split at he)
 ·unfold uA at he
  repeat'(first
   |with_reducible exact gX he
   |with_reducible exact iX he
   |(simp only[reduceCtorEq]at he;done)
   |(simp only[AC]at he;subst he;exact dy)
   |(simp only[A0]at he;obtain⟨_,_,he⟩:=he)
   |(simp only[A1]at he;obtain⟨_,_,he⟩:=he;subst he;exact dy)
   |split at he)
 ·unfold FD at he
  repeat'(first
   |with_reducible exact gX he
   |with_reducible exact iX he
   |(simp only[reduceCtorEq]at he;done)
   |(simp only[AC]at he;subst he;exact dy)
   |(simp only[A0]at he;obtain⟨_,_,he⟩:=he)
   |(simp only[A1]at he;obtain⟨_,_,he⟩:=he;subst he;exact dy)
   |split at he)
 ·unfold qk at he
  repeat'(first
   |with_reducible exact gX he
   |with_reducible exact iX he
   |(simp only[reduceCtorEq]at he;done)
   |(simp only[AC]at he;subst he;exact dy)
   |(simp only[A0]at he;obtain⟨_,_,he⟩:=he)
   |(simp only[A1]at he;obtain⟨_,_,he⟩:=he;subst he;exact dy)
   |split at he)
 ·unfold uC at he
  repeat'(first
   |with_reducible exact gX he
   |with_reducible exact iX he
   |(simp only[reduceCtorEq]at he;done)
   |(simp only[AC]at he;subst he;exact dy)
   |(simp only[A0]at he;obtain⟨_,_,he⟩:=he)
   |(simp only[A1]at he;obtain⟨_,_,he⟩:=he;subst he;exact dy)
   |split at he)
 ·unfold zl at he
  repeat'(first
   |with_reducible exact gX he
   |with_reducible exact iX he
   |(simp only[reduceCtorEq]at he;done)
   |(simp only[AC]at he;subst he;exact dy)
   |(simp only[A0]at he;obtain⟨_,_,he⟩:=he)
   |(simp only[A1]at he;obtain⟨_,_,he⟩:=he;subst he;exact dy)
   |split at he)
 ·unfold FB at he
  repeat'(first
   |with_reducible exact gX he
   |with_reducible exact iX he
   |(simp only[reduceCtorEq]at he;done)
   |(simp only[AC]at he;subst he;exact dy)
   |(simp only[A0]at he;obtain⟨_,_,he⟩:=he)
   |(simp only[A1]at he;obtain⟨_,_,he⟩:=he;subst he;exact dy)
   |split at he)
 ·simp[wz,nL]at he
 ·simp[wv,nL]at he
 ·simp[sO,nL]at he
 ·simp[sO,nL]at he
 ·rename_i c ho
  split at he
  ·unfold rm at he
   repeat'(first
    |with_reducible exact gX he
    |with_reducible exact iX he
    |(simp only[reduceCtorEq]at he;done)
    |(simp only[AC]at he;subst he;exact dy)
    |(simp only[A0]at he;obtain⟨_,_,he⟩:=he)
    |(simp only[A1]at he;obtain⟨_,_,he⟩:=he;subst he;exact dy)
    |split at he)
  ·simp only[A0]at he
   obtain⟨e1,Pj,Pk⟩:=he
   refine agH Pk ?_
   clear Pk
   have he:=Pj
   clear Pj
   unfold nD y7 y8 n4 at he
   repeat'(first
    |with_reducible exact gX he
    |with_reducible exact iX he
    |(simp only[reduceCtorEq]at he;done)
    |(simp only[AC]at he;subst he;exact dy)
    |(simp only[A0]at he;obtain⟨_,_,he⟩:=he)
    |(simp only[A1]at he;obtain⟨_,_,he⟩:=he;subst he;exact dy)
    |split at he)
  ·simp[wu]at he
  ·repeat'(first
    |with_reducible exact gX he
    |with_reducible exact iX he
    |(simp only[reduceCtorEq]at he;done)
    |(simp only[AC]at he;subst he;exact dy)
    |(simp only[A0]at he;obtain⟨_,_,he⟩:=he)
    |(simp only[A1]at he;obtain⟨_,_,he⟩:=he;subst he;exact dy)
    |split at he)
  ·repeat'(first
    |with_reducible exact gX he
    |with_reducible exact iX he
    |(simp only[reduceCtorEq]at he;done)
    |(simp only[AC]at he;subst he;exact dy)
    |(simp only[A0]at he;obtain⟨_,_,he⟩:=he)
    |(simp only[A1]at he;obtain⟨_,_,he⟩:=he;subst he;exact dy)
    |split at he)
  ·rename_i cS hc
   split at he
   ·unfold qg at he
    simp only[A0]at he
    obtain⟨x,_,he⟩:=he
    split at he
    ·cases he
    ·generalize(if fM C f o.dst=true then(if flat x.r=true then dN x.r else .bD)else x.r)=rr at he
     split at he
     ·simp only[AC]at he;subst he;exact dy
     ·cases he
   split at he
   ·simp[uD]at he
   ·split at he
    ·split at he
     ·exact agI he
     ·cases he
    ·unfold rf at he
     split at he
     ·split at he
      ·unfold xR at he
       repeat'(first
        |(simp only[reduceCtorEq]at he;done)
        |(simp only[AC]at he;subst he;exact dy)
        |split at he)
      split at he
      ·split at he
       ·generalize(if fM C f o.dst=true then _ else _)=r' at he
        split at he
        ·cases he
        ·split at he
         ·simp only[AC]at he;subst he;exact dy
         ·cases he
       ·cases he
      ·cases he
     ·cases he
  ·cases he
 ·cases he
end
open Go
inductive js(C:aC)(f:FuncId)(call:FuncId->List U->Option (U×List U))(ops:Array Oper)(S:ah)(o:Oper):aP->Prop|yes{e e':aP}:qq S ops o=some true->bS C f call S true o=some e->e'.rd=e.rd->e'.wr=e.wr->(e'=e∨∃v,e.dR=(put o v [] []).dR∧e'.dR=(put o (.dw true v) [] []).dR)->js C f call ops S o e'|no{e':aP}{x:U}:qq S ops o=some false->e'.wr=[]->(x= .bD∨∃y,x= .dw false y)->e'.dR=(put o x [] []).dR->js C f call ops S o e'
section
variable{C:aC}{E:Env}{w:World}{S:ah}{a:Act}{β:Id->Option Loc}{F:Id->List Nat}
variable{next:Act->World->Prop}{Q:Exit->Act->World->Prop}
variable{f:FuncId}{call:FuncId->List U->Option (U×List U)}{ops:Array Oper}
theorem R.O7{I:Nat->Prop}{g:List Nat}{v:Value}{x:U}(h:R w I β g v (.dw false x)):v=undef:=by cases h;rfl
theorem zi{o:Oper}{e:aP}(h:sM C f call S ops o=some e):js C f call ops S o e:=by unfold sM at h;split at h;·{cases h};·rename_i g hg;split at h;·{rename_i hn;have:g=true:=by{simpa[qq,hn]using hg.symm};subst this;exact .yes hg h rfl rfl (.inl rfl)};·split at h;·{rename_i e0 JV;split at h;·{rename_i hw;simp only[AC]at h;subst h;rcases L8 JV with⟨v,hv⟩|⟨hne,_⟩;·{cases g with|true=>(refine .yes hg JV rfl rfl (.inr ⟨v,hv, ?_⟩);simp only[hv,put];cases o.dst<;>rfl)|false=>refine .no (x:= .dw false v) hg (by simpa using hw) (.inr ⟨v,rfl⟩) ?_;simp only[hv,put];cases o.dst<;>rfl};·exact absurd (by simpa using hw) hne};·cases g with|true=>(simp only[if_true,AC]at h;subst h;exact .yes hg JV rfl rfl (.inl rfl))|false=>simp only[Do,if_false,AC]at h;subst h;exact .no hg rfl (.inr ⟨_,rfl⟩) rfl};·cases g with|true=>(simp at h)|false=>simp only[Do,if_false,AC]at h;subst h;exact .no hg rfl (.inr ⟨_,rfl⟩) rfl
theorem Mn(h:aK C E w S a β F){o:Oper}{g:Bool}(hg:qq S ops o=some g):Region.wanted o (yielded ops a.tmps)=g:=by unfold qq at hg;unfold Region.wanted;cases hgd:o.guard with|none=>(simp[hgd]at hg;simp[hg])|some KG=>obtain⟨j,want⟩:=KG;simp only[hgd]at hg|-;unfold yielded;cases hd:(ops[j]?).bind (·.dst)with|none=>(simp[hd]at hg)|some d=>simp only[hd]at hg;simp only[Option.bind_some];have hr:=h.slot d;have uL:∀b,a.tmps.getD d undef= .bool b->a.tmps[d]? =some (.bool b):=fun b hb=>by{rw[GE]at hb;cases hx:a.tmps[d]? with|none=>(rw[hx]at hb;simp[undef]at hb)|some x=>rw[hx]at hb;simpa using hb};split at hg;·{rename_i b hb;rw[hb]at hr;rw[uL b hr.iD.2];simpa using hg};·{rename_i g' b hb;rw[hb]at hr;simp only[AC]at hg;cases g' with|true=>(have:=(hr.O8.2 rfl).iD.2;rw[uL b this];simpa using hg)|false=>have hu:=hr.O7;have hnb:∀b,a.tmps[d]? ≠some (.bool b):=fun b hx=>by{rw[GE,hx]at hu;simp[undef]at hu};have:g=false:=by{simpa using hg.symm};subst this;cases hx:a.tmps[d]? with|none=>(rfl)|some x=>cases x<;>first|rfl|exact absurd hx (hnb _)};·{rename_i x hb;rw[hb]at hr;have hu:=hr.O7;have hnb:∀b,a.tmps[d]? ≠some (.bool b):=fun b hx=>by{rw[GE,hx]at hu;simp[undef]at hu};have:g=false:=by{simpa using hg.symm};subst this;cases hx:a.tmps[d]? with|none=>(rfl)|some x=>cases x<;>first|rfl|exact absurd hx (hnb _)};·cases hg
theorem aee(hN:jJ C)(cZ:∀k as r,call k as=some r->Sound C k as r)(h:aK C E w S a β F){o:Oper}{e:aP}(he:js C f call ops S o e)(hd:cE S e)(hn:∀a' w',aY C E (S.app e) a' w'->next a' w'):if Region.wanted o (yielded ops a.tmps)then o.wp C.P a w next Q else next (a.put o.dst undef) w:=by cases he with| @yes e0 _ hg hop hrd hwr fJ=>(rw[Mn h hg,if_pos rfl];rcases fJ with rfl|⟨v,hv,s8⟩;·{exact Rf hN cZ h hop hd hn};·have F2:cE S e0:=by{unfold cE at hd|-;rw[hv];rw[s8]at hd;cases bL:o.dst<;>simp[put,bL]at hd|-;exact hd};refine Rf hN cZ h hop F2 fun a' w' hx=>hn a' w' ?_;obtain⟨β',F',hx⟩:=hx;refine⟨β',F', ?_⟩;cases bL:o.dst with|none=>(have e1:S.app e=S.app e0:=by{simp[ah.app,hv,s8,hwr,put,bL]};rw[e1];exact hx)|some d=>have hs:=hx.slot d;have e2:(S.app e0).t d=v:=by{simp[ah.app,hv,put,bL,dn,ax]};rw[e2]at hs;have:=hx.SE d (.qt hs);have e1:S.app e=⟨(S.app e0).n,ax (S.app e0).t d (.dw true v),(S.app e0).h⟩:=by{simp only[ah.app,hv,s8,hwr,put,bL,dn,ah.mk.injEq,true_and,and_true];funext t;simp only[ax];split<;>rfl};rw[e1];exact this)| @no _ x hg hwr hx fJ=>rw[Mn h hg];simp only[Do,if_false];refine hn _ _ ⟨β,F, ?_⟩;have e1:S.app e=S.app (put o x [] []):=by{simp[ah.app,fJ,hwr,put]};rw[e1];have F2:cE S (put o x [] []):=by{unfold cE at hd|-;rw[fJ]at hd;exact hd};refine h.val o [] ?_ F2;rcases hx with rfl|⟨y,rfl⟩;·{exact .bD};·exact .qs
theorem ah3{P:Program}{o:Oper}{next next':Act->World->Prop}(h:o.wp P a w next Q)(hn:∀a' w' v,a'.tmps=(a.put o.dst v).tmps->next a' w'->next' a' w'):o.wp P a w next' Q:=by unfold Oper.wp at h|-;cases hr:(execOp a.eval o).run P w with|ok x w1=>(rw[hr]at h;cases x with|value v=>(exact hn _ _ v rfl h)|skip=>(exact hn _ _ undef rfl h)|defer d=>(exact hn _ _ undef (by cases o.dst<;>rfl) h)|enter f args=>(simp only[Oper.upon]at h|-;refine h.mono fun e w'' hh=> ?_;cases e with|returned v=>(exact hn _ _ v rfl hh)|_=>exact hh)|row r args=>(exact Rows.mono h fun v w'' hh=>hn _ _ v rfl hh)|_=>exact h)|halt x w1=>rw[hr]at h;cases x<;>exact h
def qZ(K:Act->Prop)(ops:Array Oper):Prop:=∀(i:Nat)(o:Oper),ops[i]? =some o->∀a a' v,K a->a'.tmps=(a.put o.dst v).tmps->K a'
theorem Ds{K:Act->Prop}(hN:jJ C)(cZ:∀k as r,call k as=some r->Sound C k as r)(h:aK C E w S a β F){o:Oper}{e:aP}(he:js C f call ops S o e)(hd:cE S e)(hk:∀a' v,a'.tmps=(a.put o.dst v).tmps->K a')(hn:∀a' w',aY C E (S.app e) a' w'->K a'->next a' w'):if Region.wanted o (yielded ops a.tmps)then o.wp C.P a w next Q else next (a.put o.dst undef) w:=by have:=aee (Q:=Q) (next:=aY C E (S.app e)) hN cZ h he hd (fun _ _ h=>h);split at this;·{rename_i hw;rw[if_pos hw];exact ah3 this fun a' w' v e h=>hn _ _ h (hk _ v e)};·rename_i hw;rw[if_neg hw];exact hn _ _ this (hk _ undef rfl)
theorem Rg{K:Act->Prop}(hU:qZ K ops)(hN:jJ C)(cZ:∀k as r,call k as=some r->Sound C k as r):∀(l:List Oper)(i:Nat){S S':ah}{ks:List eW}{a:Act}{w:World},(∀j,l[j]? =ops[i+j]?)->kD C f call ops i l S=some (S',ks)->aY C E S a w->K a->(∀a' w',aY C E S' a' w'->K a'->Q .normal a' w')->wpOps C.P ops Q (List.range' i l.length) a w|[],i,S,S',ks,a,w,_,h,hS,hK,hq=>by{simp[kD]at h;obtain⟨rfl,_⟩:=h;exact hq _ _ hS hK}|o::l,i,S,S',ks,a,w,hl,h,hS,hK,hq=>by have h0:ops[i]? =some o:=by{simpa using(hl 0).symm};simp only[kD,A0]at h;obtain⟨e,he,h⟩:=h;split at h;·{rename_i hd;obtain⟨⟨bG,k1⟩,h1,h2⟩:=Option.map_eq_some_iff.1 h;simp only[Prod.mk.injEq]at h2;obtain⟨rfl,_⟩:=h2;obtain⟨β,F,hS⟩:=hS;rw[List.length_cons,List.range'_succ,wpOps_cons];unfold wpOp;simp only[h0];have:=Ds (Q:=Q) (K:=K) (next:=wpOps C.P ops Q (List.range' (i+1) l.length)) hN cZ hS (zi he) hd (fun a' v e=>hU i o h0 a a' v hK e) fun a' w' hx hk=>Rg hU hN cZ l (i+1) (fun j=>by have:=hl (j+1);simpa[Nat.add_assoc,Nat.add_comm 1 j]using this) h1 hx hk hq;split at this;·{rename_i hw;simp only[hw,if_true];exact .inl this};·rename_i hw;simp only[hw];exact this};·cases h
end
end Go.Ab
