import Derived.Test.YtbbhbdlljfffdaaGreatDoorAbGr
open Array renaming getD_eq_getD_getElem?->Ha
open Bool renaming false_eq_true->GT
open Option renaming bind_eq_some_iff->Do,map_eq_some_iff->GE
open Option.some renaming injEq->AC
set_option linter.all false
namespace Go.Ab
open Go
section
variable{C:ax}{E:Env}{w:World}{S:ah}{a:Act}{β:Id->Option Loc}{F:Id->List Nat}
variable{next:Act->World->Prop}{Q:Exit->Act->World->Prop}
theorem F8(hN:hO C){f:FuncId}{call:FuncId->List U->Option (U×List U)}(cB:∀k as r,call k as=some r->Sound C k as r)(h:ay C E w S a β F){o:Oper}{e:aJ}(he:bp C f call S true o=some e)(hd:b9 S e)(hn:∀a' w',aL C E (S.app e) a' w'->next a' w'):o.wp C.P a w next Q:=by unfold bp at he;split at he;·{rename_i x ho;exact QE h (.inl ho) he hd hn};·{rename_i x ho;exact QE h (.inr ho) he hd hn};·{rename_i c x y ho;exact aeI h ho he hd hn};·{rename_i t ho;exact ad9 h ho he hd hn};·{rename_i t x ho;exact aef h ho he hd hn};·{rename_i t p ho;exact aeg h ho he hd hn};·{rename_i t n p ho;exact aei h ho he hd hn};·{rename_i t x ho;exact aeB h ho he hd hn};·{rename_i t x y ho;exact aeM h ho he hd hn};·{rename_i x ho;exact aeH h ho he hd hn};·{rename_i ho;exact aed h ho he hd hn};·{rename_i ho;exact aeN h ho he hd hn};·{rename_i ho;exact aeo h ho he hd hn};·{rename_i ho;exact aew h ho he hd hn};·{rename_i ho;exact aeF h ho he hd hn};·{rename_i ho;exact aeE h ho he hd hn};·{rename_i t x lo hi mx ho;cases mx with|none=>(exact ok_slice h ho (by simpa using he) hd hn)|some m=>simp at he};·{rename_i ho;exact aeu h ho he hd hn};·{rename_i ho;exact aet h ho he hd hn};·{rename_i ho;exact aey h ho he hd hn};·{rename_i ho;exact aex h ho he hd hn};·{rename_i ho;exact aes h ho he hd hn};·{rename_i ho;exact aec h ho he hd hn};·{rename_i ho;exact aeG h ho he hd hn};·{rename_i ho;exact aeD h ho he hd hn};·{rename_i ho;exact QD h (.inl ho) he hd hn};·{rename_i ho;exact QD h (.inr ho) he hd hn};·{rename_i c ho;split at he;·{rename_i hc;exact aeA h ho hc he hd hn};·{rename_i hc;exact aea h ho hc he hd hn};·{rename_i hc;exact aeq h ho hc he hd hn};·{rename_i hc;split at he;·{rename_i vs hv;exact QI h ho hc _ (fun _ _=>rfl) hv he hd hn};·cases he};·{rename_i hc;split at he;·{rename_i vs hv;exact QI h ho hc _ (fun _ _=>rfl) hv he hd hn};·cases he};·{rename_i bV hc;split at he;·{rename_i x di;exact ael hN.no h ho hc cB di he hd hn};·rename_i di;split at he;·{rename_i p hp;unfold pathOf at hp;split at hp;·{exact aez hN.no h ho hc (hN.path _ _ hp) he hd hn};·cases hp};·split at he;·{split at he;·{rename_i k;refine aen hN.no h ho hc cB ?_ he hd hn;simp only[ah.get,un,kG]at di;split at di;·{cases di};·rename_i hg;simpa using hg};·cases he};·exact aek hN.no hN.look h ho hc cB di he hd hn};·cases he};·cases he
/-! ### What an operation writes among the slots -/
def Shaped(C:ax)(f:FuncId)(o:Oper)(e:aJ):Prop:=(∃v,e.dj=(put o v [] []).dj)∨(e.wr≠[]∧∀x∈e.dj,x.1∈pR C f o)
theorem cL{C:ax}{f:FuncId}{o:Oper}{v:U}{rd:List Id}{wr:List (Id×Option Rows)}:Shaped C f o (put o v rd wr):= .inl ⟨v,rfl⟩
theorem fu{C:ax}{f:FuncId}{o:Oper}{v:U}{e:aJ}(h:ret o v=some e):Shaped C f o e:=by have:=gd h;subst this;exact cL
theorem gh{C:ax}{f:FuncId}{o:Oper}{v:Option Value}{e:aJ}(h:lI o v=some e):Shaped C f o e:=by unfold lI at h;split at h;·{split at h;·{exact fu h};·cases h};·cases h
theorem ahx{C:ax}{f:FuncId}{o:Oper}{e1 e:aJ}(h:qb C f o e1=some e)(h1:Shaped C f o e1):Shaped C f o e:=by unfold qb at h;split at h;·{split at h;·{split at h;·{simp only[AC]at h;subst h;exact cL};·cases h};·{split at h;·{simp only[AC]at h;subst h;exact cL};·cases h};·cases h};·simp only[AC]at h;subst h;exact h1
theorem ahy{C:ax}{f:FuncId}{call:FuncId->List U->Option (U×List U)}{S:ah}{o:Oper}{e:aJ}{k:FuncId}{args:List U}(he:qU C f call S o k args=some e):Shaped C f o e:=by unfold qU at he;split at he;·{split at he;·{generalize(if eG C f o.dst=true then _ else _)=r' at he;split at he;·{split at he;·{simp only[AC]at he;subst he;exact cL};·cases he};·cases he};·cases he};·cases he
theorem Ln{C:ax}{f:FuncId}{call:FuncId->List U->Option (U×List U)}{S:ah}{g:Bool}{o:Oper}{e:aJ}(he:bp C f call S g o=some e):Shaped C f o e:=by
 unfold bp at he
 split at he
 ·exact fu he
 ·exact fu he
 ·unfold uH at he
  repeat'(first
   |with_reducible exact fu he
   |with_reducible exact gh he
   |(simp only[reduceCtorEq]at he;done)
   |(simp only[AC]at he;subst he;exact cL)
   |(simp only[Do]at he;obtain⟨_,_,he⟩:=he)
   |(simp only[GE]at he;obtain⟨_,_,he⟩:=he;subst he;exact cL)
   |split at he)
 ·unfold sJ at he
  repeat'(first
   |with_reducible exact fu he
   |with_reducible exact gh he
   |(simp only[reduceCtorEq]at he;done)
   |(simp only[AC]at he;subst he;exact cL)
   |(simp only[Do]at he;obtain⟨_,_,he⟩:=he)
   |(simp only[GE]at he;obtain⟨_,_,he⟩:=he;subst he;exact cL)
   |split at he)
 ·unfold p7 at he
  repeat'(first
   |with_reducible exact fu he
   |with_reducible exact gh he
   |(simp only[reduceCtorEq]at he;done)
   |(simp only[AC]at he;subst he;exact cL)
   |(simp only[Do]at he;obtain⟨_,_,he⟩:=he)
   |(simp only[GE]at he;obtain⟨_,_,he⟩:=he;subst he;exact cL)
   |split at he)
 ·unfold uD at he
  repeat'(first
   |with_reducible exact fu he
   |with_reducible exact gh he
   |(simp only[reduceCtorEq]at he;done)
   |(simp only[AC]at he;subst he;exact cL)
   |(simp only[Do]at he;obtain⟨_,_,he⟩:=he)
   |(simp only[GE]at he;obtain⟨_,_,he⟩:=he;subst he;exact cL)
   |split at he)
 ·unfold p8 BD sL at he
  repeat'(first
   |with_reducible exact fu he
   |with_reducible exact gh he
   |(simp only[reduceCtorEq]at he;done)
   |(simp only[AC]at he;subst he;exact cL)
   |(simp only[Do]at he;obtain⟨_,_,he⟩:=he)
   |(simp only[GE]at he;obtain⟨_,_,he⟩:=he;subst he;exact cL)
   |split at he)
 ·unfold mF at he
  repeat'(first
   |with_reducible exact fu he
   |with_reducible exact gh he
   |(simp only[reduceCtorEq]at he;done)
   |(simp only[AC]at he;subst he;exact cL)
   |(simp only[Do]at he;obtain⟨_,_,he⟩:=he)
   |(simp only[GE]at he;obtain⟨_,_,he⟩:=he;subst he;exact cL)
   |split at he)
 ·rename_i t ao x ho
  unfold n7 at he
  split at he
  ·split at he
   ·split at he
    ·cases he
    ·split at he
     ·obtain⟨r,_,he⟩:=Option.bind_eq_some_iff.1 he
      split at he
      ·split at he
       ·rename_i ta s8
        split at he
        ·rename_i hc
         simp only[Bool.and_eq_true,Option.isNone_iff_eq_none]at hc
         simp only[AC]at he;subst he
         refine .inr ⟨by simp,fun y hy=> ?_⟩
         obtain rfl:=List.mem_singleton.1 hy
         unfold pR
         simp[ho,s8]
        ·cases he
       ·split at he
        ·simp only[AC]at he;subst he;exact cL
        ·cases he
      ·cases he
     ·cases he
   ·cases he
  ·cases he
 ·unfold BG at he
  repeat'(first
   |with_reducible exact fu he
   |with_reducible exact gh he
   |(simp only[reduceCtorEq]at he;done)
   |(simp only[AC]at he;subst he;exact cL)
   |(simp only[Do]at he;obtain⟨_,_,he⟩:=he)
   |(simp only[GE]at he;obtain⟨_,_,he⟩:=he;subst he;exact cL)
   |split at he)
 ·unfold sK at he
  repeat'(first
   |with_reducible exact fu he
   |with_reducible exact gh he
   |(simp only[reduceCtorEq]at he;done)
   |(simp only[AC]at he;subst he;exact cL)
   |(simp only[Do]at he;obtain⟨_,_,he⟩:=he)
   |(simp only[GE]at he;obtain⟨_,_,he⟩:=he;subst he;exact cL)
   |split at he)
 ·unfold wk at he
  repeat'(first
   |with_reducible exact fu he
   |with_reducible exact gh he
   |(simp only[reduceCtorEq]at he;done)
   |(simp only[AC]at he;subst he;exact cL)
   |(simp only[Do]at he;obtain⟨_,_,he⟩:=he)
   |(simp only[GE]at he;obtain⟨_,_,he⟩:=he;subst he;exact cL)
   |split at he)
 ·unfold sM EX BE at he
  repeat'(first
   |with_reducible exact fu he
   |with_reducible exact gh he
   |(simp only[reduceCtorEq]at he;done)
   |(simp only[AC]at he;subst he;exact cL)
   |(simp only[Do]at he;obtain⟨_,_,he⟩:=he)
   |(simp only[GE]at he;obtain⟨_,_,he⟩:=he;subst he;exact cL)
   |split at he)
 ·unfold p9 at he
  repeat'(first
   |with_reducible exact fu he
   |with_reducible exact gh he
   |(simp only[reduceCtorEq]at he;done)
   |(simp only[AC]at he;subst he;exact cL)
   |(simp only[Do]at he;obtain⟨_,_,he⟩:=he)
   |(simp only[GE]at he;obtain⟨_,_,he⟩:=he;subst he;exact cL)
   |split at he)
 ·exact fu he
 ·unfold sN at he
  repeat'(first
   |with_reducible exact fu he
   |with_reducible exact gh he
   |(simp only[reduceCtorEq]at he;done)
   |(simp only[AC]at he;subst he;exact cL)
   |(simp only[Do]at he;obtain⟨_,_,he⟩:=he)
   |(simp only[GE]at he;obtain⟨_,_,he⟩:=he;subst he;exact cL)
   |split at he)
 ·split at he
  ·cases he
  ·unfold qa at he
   repeat'(first
    |with_reducible exact fu he
    |with_reducible exact gh he
    |(simp only[reduceCtorEq]at he;done)
    |(simp only[AC]at he;subst he;exact cL)
    |(simp only[Do]at he;obtain⟨_,_,he⟩:=he)
    |(simp only[GE]at he;obtain⟨_,_,he⟩:=he;subst he;exact cL)
    |split at he)
 ·unfold uE at he
  repeat'(first
   |with_reducible exact fu he
   |with_reducible exact gh he
   |(simp only[reduceCtorEq]at he;done)
   |(simp only[AC]at he;subst he;exact cL)
   |(simp only[Do]at he;obtain⟨_,_,he⟩:=he)
   |(simp only[GE]at he;obtain⟨_,_,he⟩:=he;subst he;exact cL)
   |split at he)
 ·unfold ze at he
  repeat'(first
   |with_reducible exact fu he
   |with_reducible exact gh he
   |(simp only[reduceCtorEq]at he;done)
   |(simp only[AC]at he;subst he;exact cL)
   |(simp only[Do]at he;obtain⟨_,_,he⟩:=he)
   |(simp only[GE]at he;obtain⟨_,_,he⟩:=he;subst he;exact cL)
   |split at he)
 ·unfold n5 at he
  repeat'(first
   |with_reducible exact fu he
   |with_reducible exact gh he
   |(simp only[reduceCtorEq]at he;done)
   |(simp only[AC]at he;subst he;exact cL)
   |(simp only[Do]at he;obtain⟨_,_,he⟩:=he)
   |(simp only[GE]at he;obtain⟨_,_,he⟩:=he;subst he;exact cL)
   |split at he)
 ·unfold uF at he
  repeat'(first
   |with_reducible exact fu he
   |with_reducible exact gh he
   |(simp only[reduceCtorEq]at he;done)
   |(simp only[AC]at he;subst he;exact cL)
   |(simp only[Do]at he;obtain⟨_,_,he⟩:=he)
   |(simp only[GE]at he;obtain⟨_,_,he⟩:=he;subst he;exact cL)
   |split at he)
 ·unfold zc at he
  repeat'(first
   |with_reducible exact fu he
   |with_reducible exact gh he
   |(simp only[reduceCtorEq]at he;done)
   |(simp only[AC]at he;subst he;exact cL)
   |(simp only[Do]at he;obtain⟨_,_,he⟩:=he)
   |(simp only[GE]at he;obtain⟨_,_,he⟩:=he;subst he;exact cL)
   |split at he)
 ·unfold EW at he
  repeat'(first
   |with_reducible exact fu he
   |with_reducible exact gh he
   |(simp only[reduceCtorEq]at he;done)
   |(simp only[AC]at he;subst he;exact cL)
   |(simp only[Do]at he;obtain⟨_,_,he⟩:=he)
   |(simp only[GE]at he;obtain⟨_,_,he⟩:=he;subst he;exact cL)
   |split at he)
 ·unfold wj at he
  repeat'(first
   |with_reducible exact fu he
   |with_reducible exact gh he
   |(simp only[reduceCtorEq]at he;done)
   |(simp only[AC]at he;subst he;exact cL)
   |(simp only[Do]at he;obtain⟨_,_,he⟩:=he)
   |(simp only[GE]at he;obtain⟨_,_,he⟩:=he;subst he;exact cL)
   |split at he)
 ·unfold wh at he
  repeat'(first
   |with_reducible exact fu he
   |with_reducible exact gh he
   |(simp only[reduceCtorEq]at he;done)
   |(simp only[AC]at he;subst he;exact cL)
   |(simp only[Do]at he;obtain⟨_,_,he⟩:=he)
   |(simp only[GE]at he;obtain⟨_,_,he⟩:=he;subst he;exact cL)
   |split at he)
 ·unfold sO at he
  repeat'(first
   |with_reducible exact fu he
   |with_reducible exact gh he
   |(simp only[reduceCtorEq]at he;done)
   |(simp only[AC]at he;subst he;exact cL)
   |(simp only[Do]at he;obtain⟨_,_,he⟩:=he)
   |(simp only[GE]at he;obtain⟨_,_,he⟩:=he;subst he;exact cL)
   |split at he)
 ·unfold sO at he
  repeat'(first
   |with_reducible exact fu he
   |with_reducible exact gh he
   |(simp only[reduceCtorEq]at he;done)
   |(simp only[AC]at he;subst he;exact cL)
   |(simp only[Do]at he;obtain⟨_,_,he⟩:=he)
   |(simp only[GE]at he;obtain⟨_,_,he⟩:=he;subst he;exact cL)
   |split at he)
 ·rename_i c ho
  split at he
  ·unfold q6 at he
   repeat'(first
    |with_reducible exact fu he
    |with_reducible exact gh he
    |(simp only[reduceCtorEq]at he;done)
    |(simp only[AC]at he;subst he;exact cL)
    |(simp only[Do]at he;obtain⟨_,_,he⟩:=he)
    |(simp only[GE]at he;obtain⟨_,_,he⟩:=he;subst he;exact cL)
    |split at he)
  ·simp only[Do]at he
   obtain⟨e1,zA,uL⟩:=he
   refine ahx uL ?_
   clear uL
   have he:=zA
   clear zA
   unfold lU yR yS mB at he
   repeat'(first
    |with_reducible exact fu he
    |with_reducible exact gh he
    |(simp only[reduceCtorEq]at he;done)
    |(simp only[AC]at he;subst he;exact cL)
    |(simp only[Do]at he;obtain⟨_,_,he⟩:=he)
    |(simp only[GE]at he;obtain⟨_,_,he⟩:=he;subst he;exact cL)
    |split at he)
  ·unfold wg at he
   repeat'(first
    |with_reducible exact fu he
    |with_reducible exact gh he
    |(simp only[reduceCtorEq]at he;done)
    |(simp only[AC]at he;subst he;exact cL)
    |(simp only[Do]at he;obtain⟨_,_,he⟩:=he)
    |(simp only[GE]at he;obtain⟨_,_,he⟩:=he;subst he;exact cL)
    |split at he)
  ·repeat'(first
    |with_reducible exact fu he
    |with_reducible exact gh he
    |(simp only[reduceCtorEq]at he;done)
    |(simp only[AC]at he;subst he;exact cL)
    |(simp only[Do]at he;obtain⟨_,_,he⟩:=he)
    |(simp only[GE]at he;obtain⟨_,_,he⟩:=he;subst he;exact cL)
    |split at he)
  ·repeat'(first
    |with_reducible exact fu he
    |with_reducible exact gh he
    |(simp only[reduceCtorEq]at he;done)
    |(simp only[AC]at he;subst he;exact cL)
    |(simp only[Do]at he;obtain⟨_,_,he⟩:=he)
    |(simp only[GE]at he;obtain⟨_,_,he⟩:=he;subst he;exact cL)
    |split at he)
  ·rename_i bV hc
   split at he
   ·unfold oU at he
    simp only[Do]at he
    obtain⟨x,_,he⟩:=he
    split at he
    ·cases he
    ·generalize(if eG C f o.dst=true then(if flat x.r=true then dy x.r else .aF)else x.r)=rr at he
     split at he
     ·simp only[AC]at he;subst he;exact cL
     ·cases he
   split at he
   ·unfold uG at he
    repeat'(first
     |with_reducible exact fu he
     |with_reducible exact gh he
     |(simp only[reduceCtorEq]at he;done)
     |(simp only[AC]at he;subst he;exact cL)
     |(simp only[Do]at he;obtain⟨_,_,he⟩:=he)
     |(simp only[GE]at he;obtain⟨_,_,he⟩:=he;subst he;exact cL)
     |split at he)
   ·split at he
    ·split at he
     ·exact ahy he
     ·cases he
    ·unfold qT at he
     split at he
     ·split at he
      ·unfold xq at he
       repeat'(first
        |(simp only[reduceCtorEq]at he;done)
        |(simp only[AC]at he;subst he;exact cL)
        |split at he)
      split at he
      ·split at he
       ·generalize(if eG C f o.dst=true then _ else _)=r' at he
        split at he
        ·cases he
        ·split at he
         ·simp only[AC]at he;subst he;exact cL
         ·cases he
       ·cases he
      ·cases he
     ·cases he
  ·cases he
 ·cases he
end
open Go
inductive ji(C:ax)(f:FuncId)(call:FuncId->List U->Option (U×List U))(ops:Array Oper)(S:ah)(o:Oper):aJ->Prop|yes{e e':aJ}:n9 S ops o=some true->bp C f call S true o=some e->e'.rd=e.rd->e'.wr=e.wr->(e'=e∨∃v,e.dj=(put o v [] []).dj∧e'.dj=(put o (.c6 true v) [] []).dj)->ji C f call ops S o e'|no{e':aJ}{x:U}:n9 S ops o=some false->e'.wr=[]->(x= .aF∨∃y,x= .c6 false y)->e'.dj=(put o x [] []).dj->ji C f call ops S o e'
section
variable{C:ax}{E:Env}{w:World}{S:ah}{a:Act}{β:Id->Option Loc}{F:Id->List Nat}
variable{next:Act->World->Prop}{Q:Exit->Act->World->Prop}
variable{f:FuncId}{call:FuncId->List U->Option (U×List U)}{ops:Array Oper}
theorem R.Om{I:Nat->Prop}{g:List Nat}{v:Value}{x:U}(h:R w I β g v (.c6 false x)):v=undef:=by cases h;rfl
theorem y9{o:Oper}{e:aJ}(h:q5 C f call S ops o=some e):ji C f call ops S o e:=by unfold q5 at h;split at h;·{cases h};·rename_i g hg;split at h;·{rename_i hn;have:g=true:=by{simpa[n9,hn]using hg.symm};subst this;exact .yes hg h rfl rfl (.inl rfl)};·split at h;·{rename_i e0 Cb;split at h;·{rename_i hw;simp only[AC]at h;subst h;rcases Ln Cb with⟨v,hv⟩|⟨hne,_⟩;·{cases g with|true=>(refine .yes hg Cb rfl rfl (.inr ⟨v,hv, ?_⟩);simp only[hv,put];cases o.dst<;>rfl)|false=>refine .no (x:= .c6 false v) hg (by simpa using hw) (.inr ⟨v,rfl⟩) ?_;simp only[hv,put];cases o.dst<;>rfl};·exact absurd (by simpa using hw) hne};·cases g with|true=>(simp only[if_true,AC]at h;subst h;exact .yes hg Cb rfl rfl (.inl rfl))|false=>simp only[GT,if_false,AC]at h;subst h;exact .no hg rfl (.inr ⟨_,rfl⟩) rfl};·cases g with|true=>(simp at h)|false=>simp only[GT,if_false,AC]at h;subst h;exact .no hg rfl (.inr ⟨_,rfl⟩) rfl
theorem Ly(h:ay C E w S a β F){o:Oper}{g:Bool}(hg:n9 S ops o=some g):Region.wanted o (yielded ops a.tmps)=g:=by unfold n9 at hg;unfold Region.wanted;cases hgd:o.guard with|none=>(simp[hgd]at hg;simp[hg])|some JT=>obtain⟨j,want⟩:=JT;simp only[hgd]at hg|-;unfold yielded;cases hd:(ops[j]?).bind (·.dst)with|none=>(simp[hd]at hg)|some d=>simp only[hd]at hg;simp only[Option.bind_some];have hr:=h.slot d;have o7:∀b,a.tmps.getD d undef= .bool b->a.tmps[d]? =some (.bool b):=fun b hb=>by{rw[Ha]at hb;cases hx:a.tmps[d]? with|none=>(rw[hx]at hb;simp[undef]at hb)|some x=>rw[hx]at hb;simpa using hb};split at hg;·{rename_i b hb;rw[hb]at hr;rw[o7 b hr.fG.2];simpa using hg};·{rename_i g' b hb;rw[hb]at hr;simp only[AC]at hg;cases g' with|true=>(have:=(hr.On.2 rfl).fG.2;rw[o7 b this];simpa using hg)|false=>have hu:=hr.Om;have hnb:∀b,a.tmps[d]? ≠some (.bool b):=fun b hx=>by{rw[Ha,hx]at hu;simp[undef]at hu};have:g=false:=by{simpa using hg.symm};subst this;cases hx:a.tmps[d]? with|none=>(rfl)|some x=>cases x<;>first|rfl|exact absurd hx (hnb _)};·{rename_i x hb;rw[hb]at hr;have hu:=hr.Om;have hnb:∀b,a.tmps[d]? ≠some (.bool b):=fun b hx=>by{rw[Ha,hx]at hu;simp[undef]at hu};have:g=false:=by{simpa using hg.symm};subst this;cases hx:a.tmps[d]? with|none=>(rfl)|some x=>cases x<;>first|rfl|exact absurd hx (hnb _)};·cases hg
theorem aer(hN:hO C)(cB:∀k as r,call k as=some r->Sound C k as r)(h:ay C E w S a β F){o:Oper}{e:aJ}(he:ji C f call ops S o e)(hd:b9 S e)(hn:∀a' w',aL C E (S.app e) a' w'->next a' w'):if Region.wanted o (yielded ops a.tmps)then o.wp C.P a w next Q else next (a.put o.dst undef) w:=by cases he with| @yes e0 _ hg hop hrd hwr fK=>(rw[Ly h hg,if_pos rfl];rcases fK with rfl|⟨v,hv,pg⟩;·{exact F8 hN cB h hop hd hn};·have Fm:b9 S e0:=by{unfold b9 at hd|-;rw[hv];rw[pg]at hd;cases aU:o.dst<;>simp[put,aU]at hd|-;exact hd};refine F8 hN cB h hop Fm fun a' w' hx=>hn a' w' ?_;obtain⟨β',F',hx⟩:=hx;refine⟨β',F', ?_⟩;cases aU:o.dst with|none=>(have e1:S.app e=S.app e0:=by{simp[ah.app,hv,pg,hwr,put,aU]};rw[e1];exact hx)|some d=>have hs:=hx.slot d;have e2:(S.app e0).t d=v:=by{simp[ah.app,hv,put,aU,cS,aj]};rw[e2]at hs;have:=hx.Se d (.qf hs);have e1:S.app e=⟨(S.app e0).n,aj (S.app e0).t d (.c6 true v),(S.app e0).h⟩:=by{simp only[ah.app,hv,pg,hwr,put,aU,cS,ah.mk.injEq,true_and,and_true];funext t;simp only[aj];split<;>rfl};rw[e1];exact this)| @no _ x hg hwr hx fK=>rw[Ly h hg];simp only[GT,if_false];refine hn _ _ ⟨β,F, ?_⟩;have e1:S.app e=S.app (put o x [] []):=by{simp[ah.app,fK,hwr,put]};rw[e1];have Fm:b9 S (put o x [] []):=by{unfold b9 at hd|-;rw[fK]at hd;exact hd};refine h.val o [] ?_ Fm;rcases hx with rfl|⟨y,rfl⟩;·{exact .aF};·exact .qe
theorem aiu{P:Program}{o:Oper}{next next':Act->World->Prop}(h:o.wp P a w next Q)(hn:∀a' w' v,a'.tmps=(a.put o.dst v).tmps->next a' w'->next' a' w'):o.wp P a w next' Q:=by unfold Oper.wp at h|-;cases hr:(execOp a.eval o).run P w with|ok x w1=>(rw[hr]at h;cases x with|value v=>(exact hn _ _ v rfl h)|skip=>(exact hn _ _ undef rfl h)|defer d=>(exact hn _ _ undef (by cases o.dst<;>rfl) h)|enter f args=>(simp only[Oper.upon]at h|-;refine h.mono fun e w'' hh=> ?_;cases e with|returned v=>(exact hn _ _ v rfl hh)|_=>exact hh)|row r args=>(exact Rows.mono h fun v w'' hh=>hn _ _ v rfl hh)|_=>exact h)|halt x w1=>rw[hr]at h;cases x<;>exact h
def qP(K:Act->Prop)(ops:Array Oper):Prop:=∀(i:Nat)(o:Oper),ops[i]? =some o->∀a a' v,K a->a'.tmps=(a.put o.dst v).tmps->K a'
theorem C2{K:Act->Prop}(hN:hO C)(cB:∀k as r,call k as=some r->Sound C k as r)(h:ay C E w S a β F){o:Oper}{e:aJ}(he:ji C f call ops S o e)(hd:b9 S e)(hk:∀a' v,a'.tmps=(a.put o.dst v).tmps->K a')(hn:∀a' w',aL C E (S.app e) a' w'->K a'->next a' w'):if Region.wanted o (yielded ops a.tmps)then o.wp C.P a w next Q else next (a.put o.dst undef) w:=by have:=aer (Q:=Q) (next:=aL C E (S.app e)) hN cB h he hd (fun _ _ h=>h);split at this;·{rename_i hw;rw[if_pos hw];exact aiu this fun a' w' v e h=>hn _ _ h (hk _ v e)};·rename_i hw;rw[if_neg hw];exact hn _ _ this (hk _ undef rfl)
theorem QF{K:Act->Prop}(gN:qP K ops)(hN:hO C)(cB:∀k as r,call k as=some r->Sound C k as r):∀(l:List Oper)(i:Nat){S S':ah}{ks:List dJ}{a:Act}{w:World},(∀j,l[j]? =ops[i+j]?)->kE C f call ops i l S=some (S',ks)->aL C E S a w->K a->(∀a' w',aL C E S' a' w'->K a'->Q .normal a' w')->wpOps C.P ops Q (List.range' i l.length) a w|[],i,S,S',ks,a,w,_,h,hS,hK,hq=>by{simp[kE]at h;obtain⟨rfl,_⟩:=h;exact hq _ _ hS hK}|o::l,i,S,S',ks,a,w,hl,h,hS,hK,hq=>by have h0:ops[i]? =some o:=by{simpa using(hl 0).symm};simp only[kE,Do]at h;obtain⟨e,he,h⟩:=h;split at h;·{rename_i hd;obtain⟨⟨aR,k1⟩,h1,h2⟩:=Option.map_eq_some_iff.1 h;simp only[Prod.mk.injEq]at h2;obtain⟨rfl,_⟩:=h2;obtain⟨β,F,hS⟩:=hS;rw[List.length_cons,List.range'_succ,wpOps_cons];unfold wpOp;simp only[h0];have:=C2 (Q:=Q) (K:=K) (next:=wpOps C.P ops Q (List.range' (i+1) l.length)) hN cB hS (y9 he) hd (fun a' v e=>gN i o h0 a a' v hK e) fun a' w' hx hk=>QF gN hN cB l (i+1) (fun j=>by have:=hl (j+1);simpa[Nat.add_assoc,Nat.add_comm 1 j]using this) h1 hx hk hq;split at this;·{rename_i hw;simp only[hw,if_true];exact .inl this};·rename_i hw;simp only[hw];exact this};·cases h
end
end Go.Ab
