import Derived.Test.YtbbhbdlljfffdaaGreatDoorAbGr
open Array renaming getD_eq_getD_getElem?->Ha
open Bool renaming false_eq_true->GT
open Option renaming bind_eq_some_iff->Do,map_eq_some_iff->GE
open Option.some renaming injEq->AC
set_option linter.all false
namespace Go.Ab
open Go
section
variable{C:aE}{E:Env}{w:World}{S:ai}{a:Act}{β:Id->Option Loc}{F:Id->List Nat}
variable{next:Act->World->Prop}{Q:Exit->Act->World->Prop}
theorem OQ(hN:kH C){f:FuncId}{call:FuncId->List U->Option (U×List U)}(dr:∀k as r,call k as=some r->Sound C k as r)(h:aJ C E w S a β F){o:Oper}{e:aZ}(he:bP C f call S true o=some e)(hd:cO S e)(hn:∀a' w',br C E (S.app e) a' w'->next a' w'):o.wp C.P a w next Q:=by unfold bP at he;split at he;·{rename_i x ho;exact VT h (.inl ho) he hd hn};·{rename_i x ho;exact VT h (.inr ho) he hd hn};·{rename_i c x y ho;exact ak4 h ho he hd hn};·{rename_i t ho;exact aku h ho he hd hn};·{rename_i t x ho;exact akB h ho he hd hn};·{rename_i t p ho;exact akC h ho he hd hn};·{rename_i t n p ho;exact akE h ho he hd hn};·{rename_i t x ho;exact akX h ho he hd hn};·{rename_i t x y ho;exact ak7 h ho he hd hn};·{rename_i x ho;exact ak3 h ho he hd hn};·{rename_i ho;exact aky h ho he hd hn};·{rename_i ho;exact ak8 h ho he hd hn};·{rename_i ho;exact akK h ho he hd hn};·{rename_i ho;exact akS h ho he hd hn};·{rename_i ho;exact ak1 h ho he hd hn};·{rename_i ho;exact ak0 h ho he hd hn};·{rename_i t x lo hi mx ho;cases mx with|none=>(exact ok_slice h ho (by simpa using he) hd hn)|some m=>simp at he};·{rename_i ho;exact akQ h ho he hd hn};·{rename_i ho;exact akP h ho he hd hn};·{rename_i ho;exact akU h ho he hd hn};·{rename_i ho;exact akT h ho he hd hn};·{rename_i ho;exact akO h ho he hd hn};·{rename_i ho;exact akx h ho he hd hn};·{rename_i ho;exact ak2 h ho he hd hn};·{rename_i ho;exact akZ h ho he hd hn};·{rename_i ho;exact VS h (.inl ho) he hd hn};·{rename_i ho;exact VS h (.inr ho) he hd hn};·{rename_i c ho;split at he;·{rename_i hc;exact akW h ho hc he hd hn};·{rename_i hc;exact akv h ho hc he hd hn};·{rename_i hc;exact akM h ho hc he hd hn};·{rename_i hc;split at he;·{rename_i vs hv;exact VX h ho hc _ (fun _ _=>rfl) hv he hd hn};·cases he};·{rename_i hc;split at he;·{rename_i vs hv;exact VX h ho hc _ (fun _ _=>rfl) hv he hd hn};·cases he};·{rename_i cD hc;split at he;·{rename_i x ec;exact akH hN.no h ho hc dr ec he hd hn};·rename_i ec;split at he;·{rename_i p hp;unfold pathOf at hp;split at hp;·{exact akV hN.no h ho hc (hN.path _ _ hp) he hd hn};·cases hp};·split at he;·{split at he;·{rename_i k;refine akJ hN.no h ho hc dr ?_ he hd hn;simp only[ai.get,un,mz]at ec;split at ec;·{cases ec};·rename_i hg;simpa using hg};·cases he};·exact akG hN.no hN.look h ho hc dr ec he hd hn};·cases he};·cases he
/-! ### What an operation writes among the slots -/
def Shaped(C:aE)(f:FuncId)(o:Oper)(e:aZ):Prop:=(∃v,e.ei=(put o v [] []).ei)∨(e.wr≠[]∧∀x∈e.ei,x.1∈rV C f o)
theorem dy{C:aE}{f:FuncId}{o:Oper}{v:U}{rd:List Id}{wr:List (Id×Option Rows)}:Shaped C f o (put o v rd wr):= .inl ⟨v,rfl⟩
theorem gD{C:aE}{f:FuncId}{o:Oper}{v:U}{e:aZ}(h:ret o v=some e):Shaped C f o e:=by have:=iz h;subst this;exact dy
theorem iB{C:aE}{f:FuncId}{o:Oper}{v:Option Value}{e:aZ}(h:nA o v=some e):Shaped C f o e:=by unfold nA at h;split at h;·{split at h;·{exact gD h};·cases h};·cases h
theorem anU{C:aE}{f:FuncId}{o:Oper}{e1 e:aZ}(h:sx C f o e1=some e)(h1:Shaped C f o e1):Shaped C f o e:=by unfold sx at h;split at h;·{split at h;·{split at h;·{simp only[AC]at h;subst h;exact dy};·cases h};·{split at h;·{simp only[AC]at h;subst h;exact dy};·cases h};·cases h};·simp only[AC]at h;subst h;exact h1
theorem anV{C:aE}{f:FuncId}{call:FuncId->List U->Option (U×List U)}{S:ai}{o:Oper}{e:aZ}{k:FuncId}{args:List U}(he:tJ C f call S o k args=some e):Shaped C f o e:=by unfold tJ at he;split at he;·{split at he;·{generalize(if fA C f o.dst=true then _ else _)=r' at he;split at he;·{split at he;·{simp only[AC]at he;subst he;exact dy};·cases he};·cases he};·cases he};·cases he
theorem PR{C:aE}{f:FuncId}{call:FuncId->List U->Option (U×List U)}{S:ai}{g:Bool}{o:Oper}{e:aZ}(he:bP C f call S g o=some e):Shaped C f o e:=by
 unfold bP at he
 split at he
 ·exact gD he
 ·exact gD he
 ·unfold xm at he
  repeat'(first
   |with_reducible exact gD he
   |with_reducible exact iB he
   |(simp only[reduceCtorEq]at he;done)
   |(simp only[AC]at he;subst he;exact dy)
   |(simp only[Do]at he;obtain⟨_,_,he⟩:=he)
   |(simp only[GE]at he;obtain⟨_,_,he⟩:=he;subst he;exact dy)
   |split at he)
 ·unfold vk at he
  repeat'(first
   |with_reducible exact gD he
   |with_reducible exact iB he
   |(simp only[reduceCtorEq]at he;done)
   |(simp only[AC]at he;subst he;exact dy)
   |(simp only[Do]at he;obtain⟨_,_,he⟩:=he)
   |(simp only[GE]at he;obtain⟨_,_,he⟩:=he;subst he;exact dy)
   |split at he)
 ·unfold sn at he
  repeat'(first
   |with_reducible exact gD he
   |with_reducible exact iB he
   |(simp only[reduceCtorEq]at he;done)
   |(simp only[AC]at he;subst he;exact dy)
   |(simp only[Do]at he;obtain⟨_,_,he⟩:=he)
   |(simp only[GE]at he;obtain⟨_,_,he⟩:=he;subst he;exact dy)
   |split at he)
 ·unfold xh at he
  repeat'(first
   |with_reducible exact gD he
   |with_reducible exact iB he
   |(simp only[reduceCtorEq]at he;done)
   |(simp only[AC]at he;subst he;exact dy)
   |(simp only[Do]at he;obtain⟨_,_,he⟩:=he)
   |(simp only[GE]at he;obtain⟨_,_,he⟩:=he;subst he;exact dy)
   |split at he)
 ·unfold so EC vm at he
  repeat'(first
   |with_reducible exact gD he
   |with_reducible exact iB he
   |(simp only[reduceCtorEq]at he;done)
   |(simp only[AC]at he;subst he;exact dy)
   |(simp only[Do]at he;obtain⟨_,_,he⟩:=he)
   |(simp only[GE]at he;obtain⟨_,_,he⟩:=he;subst he;exact dy)
   |split at he)
 ·unfold mV at he
  repeat'(first
   |with_reducible exact gD he
   |with_reducible exact iB he
   |(simp only[reduceCtorEq]at he;done)
   |(simp only[AC]at he;subst he;exact dy)
   |(simp only[Do]at he;obtain⟨_,_,he⟩:=he)
   |(simp only[GE]at he;obtain⟨_,_,he⟩:=he;subst he;exact dy)
   |split at he)
 ·rename_i t ao x ho
  unfold qi at he
  split at he
  ·split at he
   ·split at he
    ·cases he
    ·split at he
     ·obtain⟨r,_,he⟩:=Option.bind_eq_some_iff.1 he
      split at he
      ·split at he
       ·rename_i ta vO
        split at he
        ·rename_i hc
         simp only[Bool.and_eq_true,Option.isNone_iff_eq_none]at hc
         simp only[AC]at he;subst he
         refine .inr ⟨by simp,fun y hy=> ?_⟩
         obtain rfl:=List.mem_singleton.1 hy
         unfold rV
         simp[ho,vO]
        ·cases he
       ·split at he
        ·simp only[AC]at he;subst he;exact dy
        ·cases he
      ·cases he
     ·cases he
   ·cases he
  ·cases he
 ·unfold EF at he
  repeat'(first
   |with_reducible exact gD he
   |with_reducible exact iB he
   |(simp only[reduceCtorEq]at he;done)
   |(simp only[AC]at he;subst he;exact dy)
   |(simp only[Do]at he;obtain⟨_,_,he⟩:=he)
   |(simp only[GE]at he;obtain⟨_,_,he⟩:=he;subst he;exact dy)
   |split at he)
 ·unfold vl at he
  repeat'(first
   |with_reducible exact gD he
   |with_reducible exact iB he
   |(simp only[reduceCtorEq]at he;done)
   |(simp only[AC]at he;subst he;exact dy)
   |(simp only[Do]at he;obtain⟨_,_,he⟩:=he)
   |(simp only[GE]at he;obtain⟨_,_,he⟩:=he;subst he;exact dy)
   |split at he)
 ·unfold zu at he
  repeat'(first
   |with_reducible exact gD he
   |with_reducible exact iB he
   |(simp only[reduceCtorEq]at he;done)
   |(simp only[AC]at he;subst he;exact dy)
   |(simp only[Do]at he;obtain⟨_,_,he⟩:=he)
   |(simp only[GE]at he;obtain⟨_,_,he⟩:=he;subst he;exact dy)
   |split at he)
 ·unfold vn IM ED at he
  repeat'(first
   |with_reducible exact gD he
   |with_reducible exact iB he
   |(simp only[reduceCtorEq]at he;done)
   |(simp only[AC]at he;subst he;exact dy)
   |(simp only[Do]at he;obtain⟨_,_,he⟩:=he)
   |(simp only[GE]at he;obtain⟨_,_,he⟩:=he;subst he;exact dy)
   |split at he)
 ·unfold sr at he
  repeat'(first
   |with_reducible exact gD he
   |with_reducible exact iB he
   |(simp only[reduceCtorEq]at he;done)
   |(simp only[AC]at he;subst he;exact dy)
   |(simp only[Do]at he;obtain⟨_,_,he⟩:=he)
   |(simp only[GE]at he;obtain⟨_,_,he⟩:=he;subst he;exact dy)
   |split at he)
 ·exact gD he
 ·unfold vo at he
  repeat'(first
   |with_reducible exact gD he
   |with_reducible exact iB he
   |(simp only[reduceCtorEq]at he;done)
   |(simp only[AC]at he;subst he;exact dy)
   |(simp only[Do]at he;obtain⟨_,_,he⟩:=he)
   |(simp only[GE]at he;obtain⟨_,_,he⟩:=he;subst he;exact dy)
   |split at he)
 ·split at he
  ·cases he
  ·unfold su at he
   repeat'(first
    |with_reducible exact gD he
    |with_reducible exact iB he
    |(simp only[reduceCtorEq]at he;done)
    |(simp only[AC]at he;subst he;exact dy)
    |(simp only[Do]at he;obtain⟨_,_,he⟩:=he)
    |(simp only[GE]at he;obtain⟨_,_,he⟩:=he;subst he;exact dy)
    |split at he)
 ·unfold xj at he
  repeat'(first
   |with_reducible exact gD he
   |with_reducible exact iB he
   |(simp only[reduceCtorEq]at he;done)
   |(simp only[AC]at he;subst he;exact dy)
   |(simp only[Do]at he;obtain⟨_,_,he⟩:=he)
   |(simp only[GE]at he;obtain⟨_,_,he⟩:=he;subst he;exact dy)
   |split at he)
 ·unfold BS at he
  repeat'(first
   |with_reducible exact gD he
   |with_reducible exact iB he
   |(simp only[reduceCtorEq]at he;done)
   |(simp only[AC]at he;subst he;exact dy)
   |(simp only[Do]at he;obtain⟨_,_,he⟩:=he)
   |(simp only[GE]at he;obtain⟨_,_,he⟩:=he;subst he;exact dy)
   |split at he)
 ·unfold qg at he
  repeat'(first
   |with_reducible exact gD he
   |with_reducible exact iB he
   |(simp only[reduceCtorEq]at he;done)
   |(simp only[AC]at he;subst he;exact dy)
   |(simp only[Do]at he;obtain⟨_,_,he⟩:=he)
   |(simp only[GE]at he;obtain⟨_,_,he⟩:=he;subst he;exact dy)
   |split at he)
 ·unfold xk at he
  repeat'(first
   |with_reducible exact gD he
   |with_reducible exact iB he
   |(simp only[reduceCtorEq]at he;done)
   |(simp only[AC]at he;subst he;exact dy)
   |(simp only[Do]at he;obtain⟨_,_,he⟩:=he)
   |(simp only[GE]at he;obtain⟨_,_,he⟩:=he;subst he;exact dy)
   |split at he)
 ·unfold BR at he
  repeat'(first
   |with_reducible exact gD he
   |with_reducible exact iB he
   |(simp only[reduceCtorEq]at he;done)
   |(simp only[AC]at he;subst he;exact dy)
   |(simp only[Do]at he;obtain⟨_,_,he⟩:=he)
   |(simp only[GE]at he;obtain⟨_,_,he⟩:=he;subst he;exact dy)
   |split at he)
 ·unfold IL at he
  repeat'(first
   |with_reducible exact gD he
   |with_reducible exact iB he
   |(simp only[reduceCtorEq]at he;done)
   |(simp only[AC]at he;subst he;exact dy)
   |(simp only[Do]at he;obtain⟨_,_,he⟩:=he)
   |(simp only[GE]at he;obtain⟨_,_,he⟩:=he;subst he;exact dy)
   |split at he)
 ·unfold zq at he
  repeat'(first
   |with_reducible exact gD he
   |with_reducible exact iB he
   |(simp only[reduceCtorEq]at he;done)
   |(simp only[AC]at he;subst he;exact dy)
   |(simp only[Do]at he;obtain⟨_,_,he⟩:=he)
   |(simp only[GE]at he;obtain⟨_,_,he⟩:=he;subst he;exact dy)
   |split at he)
 ·unfold zo at he
  repeat'(first
   |with_reducible exact gD he
   |with_reducible exact iB he
   |(simp only[reduceCtorEq]at he;done)
   |(simp only[AC]at he;subst he;exact dy)
   |(simp only[Do]at he;obtain⟨_,_,he⟩:=he)
   |(simp only[GE]at he;obtain⟨_,_,he⟩:=he;subst he;exact dy)
   |split at he)
 ·unfold vp at he
  repeat'(first
   |with_reducible exact gD he
   |with_reducible exact iB he
   |(simp only[reduceCtorEq]at he;done)
   |(simp only[AC]at he;subst he;exact dy)
   |(simp only[Do]at he;obtain⟨_,_,he⟩:=he)
   |(simp only[GE]at he;obtain⟨_,_,he⟩:=he;subst he;exact dy)
   |split at he)
 ·unfold vp at he
  repeat'(first
   |with_reducible exact gD he
   |with_reducible exact iB he
   |(simp only[reduceCtorEq]at he;done)
   |(simp only[AC]at he;subst he;exact dy)
   |(simp only[Do]at he;obtain⟨_,_,he⟩:=he)
   |(simp only[GE]at he;obtain⟨_,_,he⟩:=he;subst he;exact dy)
   |split at he)
 ·rename_i c ho
  split at he
  ·unfold tT at he
   repeat'(first
    |with_reducible exact gD he
    |with_reducible exact iB he
    |(simp only[reduceCtorEq]at he;done)
    |(simp only[AC]at he;subst he;exact dy)
    |(simp only[Do]at he;obtain⟨_,_,he⟩:=he)
    |(simp only[GE]at he;obtain⟨_,_,he⟩:=he;subst he;exact dy)
    |split at he)
  ·simp only[Do]at he
   obtain⟨e1,Cc,xy⟩:=he
   refine anU xy ?_
   clear xy
   have he:=Cc
   clear Cc
   unfold nK By Bz o4 at he
   repeat'(first
    |with_reducible exact gD he
    |with_reducible exact iB he
    |(simp only[reduceCtorEq]at he;done)
    |(simp only[AC]at he;subst he;exact dy)
    |(simp only[Do]at he;obtain⟨_,_,he⟩:=he)
    |(simp only[GE]at he;obtain⟨_,_,he⟩:=he;subst he;exact dy)
    |split at he)
  ·unfold zn at he
   repeat'(first
    |with_reducible exact gD he
    |with_reducible exact iB he
    |(simp only[reduceCtorEq]at he;done)
    |(simp only[AC]at he;subst he;exact dy)
    |(simp only[Do]at he;obtain⟨_,_,he⟩:=he)
    |(simp only[GE]at he;obtain⟨_,_,he⟩:=he;subst he;exact dy)
    |split at he)
  ·repeat'(first
    |with_reducible exact gD he
    |with_reducible exact iB he
    |(simp only[reduceCtorEq]at he;done)
    |(simp only[AC]at he;subst he;exact dy)
    |(simp only[Do]at he;obtain⟨_,_,he⟩:=he)
    |(simp only[GE]at he;obtain⟨_,_,he⟩:=he;subst he;exact dy)
    |split at he)
  ·repeat'(first
    |with_reducible exact gD he
    |with_reducible exact iB he
    |(simp only[reduceCtorEq]at he;done)
    |(simp only[AC]at he;subst he;exact dy)
    |(simp only[Do]at he;obtain⟨_,_,he⟩:=he)
    |(simp only[GE]at he;obtain⟨_,_,he⟩:=he;subst he;exact dy)
    |split at he)
  ·rename_i cD hc
   split at he
   ·unfold qX at he
    simp only[Do]at he
    obtain⟨x,_,he⟩:=he
    split at he
    ·cases he
    ·generalize(if fA C f o.dst=true then(if flat x.r=true then ey x.r else .aU)else x.r)=rr at he
     split at he
     ·simp only[AC]at he;subst he;exact dy
     ·cases he
   split at he
   ·unfold xl at he
    repeat'(first
     |with_reducible exact gD he
     |with_reducible exact iB he
     |(simp only[reduceCtorEq]at he;done)
     |(simp only[AC]at he;subst he;exact dy)
     |(simp only[Do]at he;obtain⟨_,_,he⟩:=he)
     |(simp only[GE]at he;obtain⟨_,_,he⟩:=he;subst he;exact dy)
     |split at he)
   ·split at he
    ·split at he
     ·exact anV he
     ·cases he
    ·unfold tI at he
     split at he
     ·split at he
      ·unfold Ar at he
       repeat'(first
        |(simp only[reduceCtorEq]at he;done)
        |(simp only[AC]at he;subst he;exact dy)
        |split at he)
      split at he
      ·split at he
       ·generalize(if fA C f o.dst=true then _ else _)=r' at he
        split at he
        ·cases he
        ·split at he
         ·simp only[AC]at he;subst he;exact dy
         ·cases he
       ·cases he
      ·cases he
     ·cases he
  ·cases he
 ·cases he
end
open Go
inductive kG(C:aE)(f:FuncId)(call:FuncId->List U->Option (U×List U))(ops:Array Oper)(S:ai)(o:Oper):aZ->Prop|yes{e e':aZ}:ql S ops o=some true->bP C f call S true o=some e->e'.rd=e.rd->e'.wr=e.wr->(e'=e∨∃v,e.ei=(put o v [] []).ei∧e'.ei=(put o (.dR true v) [] []).ei)->kG C f call ops S o e'|no{e':aZ}{x:U}:ql S ops o=some false->e'.wr=[]->(x= .aU∨∃y,x= .dR false y)->e'.ei=(put o x [] []).ei->kG C f call ops S o e'
section
variable{C:aE}{E:Env}{w:World}{S:ai}{a:Act}{β:Id->Option Loc}{F:Id->List Nat}
variable{next:Act->World->Prop}{Q:Exit->Act->World->Prop}
variable{f:FuncId}{call:FuncId->List U->Option (U×List U)}{ops:Array Oper}
theorem R.TG{I:Nat->Prop}{g:List Nat}{v:Value}{x:U}(h:R w I β g v (.dR false x)):v=undef:=by cases h;rfl
theorem BL{o:Oper}{e:aZ}(h:tS C f call S ops o=some e):kG C f call ops S o e:=by unfold tS at h;split at h;·{cases h};·rename_i g hg;split at h;·{rename_i hn;have:g=true:=by{simpa[ql,hn]using hg.symm};subst this;exact .yes hg h rfl rfl (.inl rfl)};·split at h;·{rename_i e0 Fj;split at h;·{rename_i hw;simp only[AC]at h;subst h;rcases PR Fj with⟨v,hv⟩|⟨hne,_⟩;·{cases g with|true=>(refine .yes hg Fj rfl rfl (.inr ⟨v,hv, ?_⟩);simp only[hv,put];cases o.dst<;>rfl)|false=>refine .no (x:= .dR false v) hg (by simpa using hw) (.inr ⟨v,rfl⟩) ?_;simp only[hv,put];cases o.dst<;>rfl};·exact absurd (by simpa using hw) hne};·cases g with|true=>(simp only[if_true,AC]at h;subst h;exact .yes hg Fj rfl rfl (.inl rfl))|false=>simp only[GT,if_false,AC]at h;subst h;exact .no hg rfl (.inr ⟨_,rfl⟩) rfl};·cases g with|true=>(simp at h)|false=>simp only[GT,if_false,AC]at h;subst h;exact .no hg rfl (.inr ⟨_,rfl⟩) rfl
theorem Qd(h:aJ C E w S a β F){o:Oper}{g:Bool}(hg:ql S ops o=some g):Region.wanted o (yielded ops a.tmps)=g:=by unfold ql at hg;unfold Region.wanted;cases hgd:o.guard with|none=>(simp[hgd]at hg;simp[hg])|some N3=>obtain⟨j,want⟩:=N3;simp only[hgd]at hg|-;unfold yielded;cases hd:(ops[j]?).bind (·.dst)with|none=>(simp[hd]at hg)|some d=>simp only[hd]at hg;simp only[Option.bind_some];have hr:=h.slot d;have ud:∀b,a.tmps.getD d undef= .bool b->a.tmps[d]? =some (.bool b):=fun b hb=>by{rw[Ha]at hb;cases hx:a.tmps[d]? with|none=>(rw[hx]at hb;simp[undef]at hb)|some x=>rw[hx]at hb;simpa using hb};split at hg;·{rename_i b hb;rw[hb]at hr;rw[ud b hr.ia.2];simpa using hg};·{rename_i g' b hb;rw[hb]at hr;simp only[AC]at hg;cases g' with|true=>(have:=(hr.TH.2 rfl).ia.2;rw[ud b this];simpa using hg)|false=>have hu:=hr.TG;have hnb:∀b,a.tmps[d]? ≠some (.bool b):=fun b hx=>by{rw[Ha,hx]at hu;simp[undef]at hu};have:g=false:=by{simpa using hg.symm};subst this;cases hx:a.tmps[d]? with|none=>(rfl)|some x=>cases x<;>first|rfl|exact absurd hx (hnb _)};·{rename_i x hb;rw[hb]at hr;have hu:=hr.TG;have hnb:∀b,a.tmps[d]? ≠some (.bool b):=fun b hx=>by{rw[Ha,hx]at hu;simp[undef]at hu};have:g=false:=by{simpa using hg.symm};subst this;cases hx:a.tmps[d]? with|none=>(rfl)|some x=>cases x<;>first|rfl|exact absurd hx (hnb _)};·cases hg
theorem akN(hN:kH C)(dr:∀k as r,call k as=some r->Sound C k as r)(h:aJ C E w S a β F){o:Oper}{e:aZ}(he:kG C f call ops S o e)(hd:cO S e)(hn:∀a' w',br C E (S.app e) a' w'->next a' w'):if Region.wanted o (yielded ops a.tmps)then o.wp C.P a w next Q else next (a.put o.dst undef) w:=by cases he with| @yes e0 _ hg hop hrd hwr gT=>(rw[Qd h hg,if_pos rfl];rcases gT with rfl|⟨v,hv,xI⟩;·{exact OQ hN dr h hop hd hn};·have Je:cO S e0:=by{unfold cO at hd|-;rw[hv];rw[xI]at hd;cases bB:o.dst<;>simp[put,bB]at hd|-;exact hd};refine OQ hN dr h hop Je fun a' w' hx=>hn a' w' ?_;obtain⟨β',F',hx⟩:=hx;refine⟨β',F', ?_⟩;cases bB:o.dst with|none=>(have e1:S.app e=S.app e0:=by{simp[ai.app,hv,xI,hwr,put,bB]};rw[e1];exact hx)|some d=>have hs:=hx.slot d;have e2:(S.app e0).t d=v:=by{simp[ai.app,hv,put,bB,dL,au]};rw[e2]at hs;have:=hx.Xz d (.sB hs);have e1:S.app e=⟨(S.app e0).n,au (S.app e0).t d (.dR true v),(S.app e0).h⟩:=by{simp only[ai.app,hv,xI,hwr,put,bB,dL,ai.mk.injEq,true_and,and_true];funext t;simp only[au];split<;>rfl};rw[e1];exact this)| @no _ x hg hwr hx gT=>rw[Qd h hg];simp only[GT,if_false];refine hn _ _ ⟨β,F, ?_⟩;have e1:S.app e=S.app (put o x [] []):=by{simp[ai.app,gT,hwr,put]};rw[e1];have Je:cO S (put o x [] []):=by{unfold cO at hd|-;rw[gT]at hd;exact hd};refine h.val o [] ?_ Je;rcases hx with rfl|⟨y,rfl⟩;·{exact .aU};·exact .sA
theorem ao9{P:Program}{o:Oper}{next next':Act->World->Prop}(h:o.wp P a w next Q)(hn:∀a' w' v,a'.tmps=(a.put o.dst v).tmps->next a' w'->next' a' w'):o.wp P a w next' Q:=by unfold Oper.wp at h|-;cases hr:(execOp a.eval o).run P w with|ok x w1=>(rw[hr]at h;cases x with|value v=>(exact hn _ _ v rfl h)|skip=>(exact hn _ _ undef rfl h)|defer d=>(exact hn _ _ undef (by cases o.dst<;>rfl) h)|enter f args=>(simp only[Oper.upon]at h|-;refine h.mono fun e w'' hh=> ?_;cases e with|returned v=>(exact hn _ _ v rfl hh)|_=>exact hh)|row r args=>(exact Rows.mono h fun v w'' hh=>hn _ _ v rfl hh)|_=>exact h)|halt x w1=>rw[hr]at h;cases x<;>exact h
def tD(K:Act->Prop)(ops:Array Oper):Prop:=∀(i:Nat)(o:Oper),ops[i]? =some o->∀a a' v,K a->a'.tmps=(a.put o.dst v).tmps->K a'
theorem Gc{K:Act->Prop}(hN:kH C)(dr:∀k as r,call k as=some r->Sound C k as r)(h:aJ C E w S a β F){o:Oper}{e:aZ}(he:kG C f call ops S o e)(hd:cO S e)(hk:∀a' v,a'.tmps=(a.put o.dst v).tmps->K a')(hn:∀a' w',br C E (S.app e) a' w'->K a'->next a' w'):if Region.wanted o (yielded ops a.tmps)then o.wp C.P a w next Q else next (a.put o.dst undef) w:=by have:=akN (Q:=Q) (next:=br C E (S.app e)) hN dr h he hd (fun _ _ h=>h);split at this;·{rename_i hw;rw[if_pos hw];exact ao9 this fun a' w' v e h=>hn _ _ h (hk _ v e)};·rename_i hw;rw[if_neg hw];exact hn _ _ this (hk _ undef rfl)
theorem VU{K:Act->Prop}(ji:tD K ops)(hN:kH C)(dr:∀k as r,call k as=some r->Sound C k as r):∀(l:List Oper)(i:Nat){S S':ai}{ks:List eI}{a:Act}{w:World},(∀j,l[j]? =ops[i+j]?)->mq C f call ops i l S=some (S',ks)->br C E S a w->K a->(∀a' w',br C E S' a' w'->K a'->Q .normal a' w')->wpOps C.P ops Q (List.range' i l.length) a w|[],i,S,S',ks,a,w,_,h,hS,hK,hq=>by{simp[mq]at h;obtain⟨rfl,_⟩:=h;exact hq _ _ hS hK}|o::l,i,S,S',ks,a,w,hl,h,hS,hK,hq=>by have h0:ops[i]? =some o:=by{simpa using(hl 0).symm};simp only[mq,Do]at h;obtain⟨e,he,h⟩:=h;split at h;·{rename_i hd;obtain⟨⟨bK,k1⟩,h1,h2⟩:=Option.map_eq_some_iff.1 h;simp only[Prod.mk.injEq]at h2;obtain⟨rfl,_⟩:=h2;obtain⟨β,F,hS⟩:=hS;rw[List.length_cons,List.range'_succ,wpOps_cons];unfold wpOp;simp only[h0];have:=Gc (Q:=Q) (K:=K) (next:=wpOps C.P ops Q (List.range' (i+1) l.length)) hN dr hS (BL he) hd (fun a' v e=>ji i o h0 a a' v hK e) fun a' w' hx hk=>VU ji hN dr l (i+1) (fun j=>by have:=hl (j+1);simpa[Nat.add_assoc,Nat.add_comm 1 j]using this) h1 hx hk hq;split at this;·{rename_i hw;simp only[hw,if_true];exact .inl this};·rename_i hw;simp only[hw];exact this};·cases h
end
end Go.Ab
