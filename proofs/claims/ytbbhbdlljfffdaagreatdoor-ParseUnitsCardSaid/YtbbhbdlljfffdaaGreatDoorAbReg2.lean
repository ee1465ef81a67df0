import Derived.Test.YtbbhbdlljfffdaaGreatDoorAbGr
open Array renaming getD_eq_getD_getElem?->Ha
open Bool renaming false_eq_true->GT
open Option renaming bind_eq_some_iff->Do,map_eq_some_iff->GE
open Option.some renaming injEq->AC
set_option linter.all false
namespace Go.Ab
open Go
section
variable{C:aF}{E:Env}{w:World}{S:aj}{a:Act}{β:Id->Option Loc}{F:Id->List Nat}
variable{next:Act->World->Prop}{Q:Exit->Act->World->Prop}
theorem Ny(hN:kV C){f:FuncId}{call:FuncId->List U->Option (U×List U)}(dD:∀k as r,call k as=some r->Sound C k as r)(h:aY C E w S a β F){o:Oper}{e:bn}(he:bU C f call S true o=some e)(hd:dc S e)(hn:∀a' w',bA C E (S.app e) a' w'->next a' w'):o.wp C.P a w next Q:=by unfold bU at he;split at he;·{rename_i x ho;exact TI h (.inl ho) he hd hn};·{rename_i x ho;exact TI h (.inr ho) he hd hn};·{rename_i c x y ho;exact aix h ho he hd hn};·{rename_i t ho;exact ahW h ho he hd hn};·{rename_i t x ho;exact ah3 h ho he hd hn};·{rename_i t p ho;exact ah4 h ho he hd hn};·{rename_i t n p ho;exact ah6 h ho he hd hn};·{rename_i t x ho;exact aiq h ho he hd hn};·{rename_i t x y ho;exact aiA h ho he hd hn};·{rename_i x ho;exact aiw h ho he hd hn};·{rename_i ho;exact ah0 h ho he hd hn};·{rename_i ho;exact aiB h ho he hd hn};·{rename_i ho;exact aic h ho he hd hn};·{rename_i ho;exact ail h ho he hd hn};·{rename_i ho;exact aiu h ho he hd hn};·{rename_i ho;exact ait h ho he hd hn};·{rename_i t x lo hi mx ho;cases mx with|none=>(exact ok_slice h ho (by simpa using he) hd hn)|some m=>simp at he};·{rename_i ho;exact aij h ho he hd hn};·{rename_i ho;exact aii h ho he hd hn};·{rename_i ho;exact ain h ho he hd hn};·{rename_i ho;exact aim h ho he hd hn};·{rename_i ho;exact aih h ho he hd hn};·{rename_i ho;exact ahZ h ho he hd hn};·{rename_i ho;exact aiv h ho he hd hn};·{rename_i ho;exact ais h ho he hd hn};·{rename_i ho;exact TH h (.inl ho) he hd hn};·{rename_i ho;exact TH h (.inr ho) he hd hn};·{rename_i c ho;split at he;·{rename_i hc;exact aip h ho hc he hd hn};·{rename_i hc;exact ahX h ho hc he hd hn};·{rename_i hc;exact aie h ho hc he hd hn};·{rename_i hc;split at he;·{rename_i vs hv;exact TM h ho hc _ (fun _ _=>rfl) hv he hd hn};·cases he};·{rename_i hc;split at he;·{rename_i vs hv;exact TM h ho hc _ (fun _ _=>rfl) hv he hd hn};·cases he};·{rename_i cW hc;split at he;·{rename_i x ek;exact ah9 hN.no h ho hc dD ek he hd hn};·rename_i ek;split at he;·{rename_i p hp;unfold pathOf at hp;split at hp;·{exact aio hN.no h ho hc (hN.path _ _ hp) he hd hn};·cases hp};·split at he;·{split at he;·{rename_i k;refine aib hN.no h ho hc dD ?_ he hd hn;simp only[aj.get,un,mE]at ek;split at ek;·{cases ek};·rename_i hg;simpa using hg};·cases he};·exact ah8 hN.no hN.look h ho hc dD ek he hd hn};·cases he};·cases he
/-! ### What an operation writes among the slots -/
def Shaped(C:aF)(f:FuncId)(o:Oper)(e:bn):Prop:=(∃v,e.eu=(put o v [] []).eu)∨(e.wr≠[]∧∀x∈e.eu,x.1∈rF C f o)
theorem er{C:aF}{f:FuncId}{o:Oper}{v:U}{rd:List Id}{wr:List (Id×Option Rows)}:Shaped C f o (put o v rd wr):= .inl ⟨v,rfl⟩
theorem jq{C:aF}{f:FuncId}{o:Oper}{v:U}{e:bn}(h:ret o v=some e):Shaped C f o e:=by have:=iJ h;subst this;exact er
theorem ku{C:aF}{f:FuncId}{o:Oper}{v:Option Value}{e:bn}(h:nD o v=some e):Shaped C f o e:=by unfold nD at h;split at h;·{split at h;·{exact jq h};·cases h};·cases h
theorem alf{C:aF}{f:FuncId}{o:Oper}{e1 e:bn}(h:r0 C f o e1=some e)(h1:Shaped C f o e1):Shaped C f o e:=by unfold r0 at h;split at h;·{split at h;·{split at h;·{simp only[AC]at h;subst h;exact er};·cases h};·{split at h;·{simp only[AC]at h;subst h;exact er};·cases h};·cases h};·simp only[AC]at h;subst h;exact h1
theorem alg{C:aF}{f:FuncId}{call:FuncId->List U->Option (U×List U)}{S:aj}{o:Oper}{e:bn}{k:FuncId}{args:List U}(he:tg C f call S o k args=some e):Shaped C f o e:=by unfold tg at he;split at he;·{split at he;·{generalize(if fP C f o.dst=true then _ else _)=r' at he;split at he;·{split at he;·{simp only[AC]at he;subst he;exact er};·cases he};·cases he};·cases he};·cases he
theorem Oi{C:aF}{f:FuncId}{call:FuncId->List U->Option (U×List U)}{S:aj}{g:Bool}{o:Oper}{e:bn}(he:bU C f call S g o=some e):Shaped C f o e:=by
 unfold bU at he
 split at he
 ·exact jq he
 ·exact jq he
 ·unfold wR at he
  repeat'(first
   |with_reducible exact jq he
   |with_reducible exact ku he
   |(simp only[reduceCtorEq]at he;done)
   |(simp only[AC]at he;subst he;exact er)
   |(simp only[Do]at he;obtain⟨_,_,he⟩:=he)
   |(simp only[GE]at he;obtain⟨_,_,he⟩:=he;subst he;exact er)
   |split at he)
 ·unfold uJ at he
  repeat'(first
   |with_reducible exact jq he
   |with_reducible exact ku he
   |(simp only[reduceCtorEq]at he;done)
   |(simp only[AC]at he;subst he;exact er)
   |(simp only[Do]at he;obtain⟨_,_,he⟩:=he)
   |(simp only[GE]at he;obtain⟨_,_,he⟩:=he;subst he;exact er)
   |split at he)
 ·unfold rW at he
  repeat'(first
   |with_reducible exact jq he
   |with_reducible exact ku he
   |(simp only[reduceCtorEq]at he;done)
   |(simp only[AC]at he;subst he;exact er)
   |(simp only[Do]at he;obtain⟨_,_,he⟩:=he)
   |(simp only[GE]at he;obtain⟨_,_,he⟩:=he;subst he;exact er)
   |split at he)
 ·unfold wN at he
  repeat'(first
   |with_reducible exact jq he
   |with_reducible exact ku he
   |(simp only[reduceCtorEq]at he;done)
   |(simp only[AC]at he;subst he;exact er)
   |(simp only[Do]at he;obtain⟨_,_,he⟩:=he)
   |(simp only[GE]at he;obtain⟨_,_,he⟩:=he;subst he;exact er)
   |split at he)
 ·unfold rX D8 uL at he
  repeat'(first
   |with_reducible exact jq he
   |with_reducible exact ku he
   |(simp only[reduceCtorEq]at he;done)
   |(simp only[AC]at he;subst he;exact er)
   |(simp only[Do]at he;obtain⟨_,_,he⟩:=he)
   |(simp only[GE]at he;obtain⟨_,_,he⟩:=he;subst he;exact er)
   |split at he)
 ·unfold mZ at he
  repeat'(first
   |with_reducible exact jq he
   |with_reducible exact ku he
   |(simp only[reduceCtorEq]at he;done)
   |(simp only[AC]at he;subst he;exact er)
   |(simp only[Do]at he;obtain⟨_,_,he⟩:=he)
   |(simp only[GE]at he;obtain⟨_,_,he⟩:=he;subst he;exact er)
   |split at he)
 ·rename_i t ao x ho
  unfold p0 at he
  split at he
  ·split at he
   ·split at he
    ·cases he
    ·split at he
     ·obtain⟨r,_,he⟩:=Option.bind_eq_some_iff.1 he
      split at he
      ·split at he
       ·rename_i ta vf
        split at he
        ·rename_i hc
         simp only[Bool.and_eq_true,Option.isNone_iff_eq_none]at hc
         simp only[AC]at he;subst he
         refine .inr ⟨by simp,fun y hy=> ?_⟩
         obtain rfl:=List.mem_singleton.1 hy
         unfold rF
         simp[ho,vf]
        ·cases he
       ·split at he
        ·simp only[AC]at he;subst he;exact er
        ·cases he
      ·cases he
     ·cases he
   ·cases he
  ·cases he
 ·unfold Eb at he
  repeat'(first
   |with_reducible exact jq he
   |with_reducible exact ku he
   |(simp only[reduceCtorEq]at he;done)
   |(simp only[AC]at he;subst he;exact er)
   |(simp only[Do]at he;obtain⟨_,_,he⟩:=he)
   |(simp only[GE]at he;obtain⟨_,_,he⟩:=he;subst he;exact er)
   |split at he)
 ·unfold uK at he
  repeat'(first
   |with_reducible exact jq he
   |with_reducible exact ku he
   |(simp only[reduceCtorEq]at he;done)
   |(simp only[AC]at he;subst he;exact er)
   |(simp only[Do]at he;obtain⟨_,_,he⟩:=he)
   |(simp only[GE]at he;obtain⟨_,_,he⟩:=he;subst he;exact er)
   |split at he)
 ·unfold y9 at he
  repeat'(first
   |with_reducible exact jq he
   |with_reducible exact ku he
   |(simp only[reduceCtorEq]at he;done)
   |(simp only[AC]at he;subst he;exact er)
   |(simp only[Do]at he;obtain⟨_,_,he⟩:=he)
   |(simp only[GE]at he;obtain⟨_,_,he⟩:=he;subst he;exact er)
   |split at he)
 ·unfold uM HO D9 at he
  repeat'(first
   |with_reducible exact jq he
   |with_reducible exact ku he
   |(simp only[reduceCtorEq]at he;done)
   |(simp only[AC]at he;subst he;exact er)
   |(simp only[Do]at he;obtain⟨_,_,he⟩:=he)
   |(simp only[GE]at he;obtain⟨_,_,he⟩:=he;subst he;exact er)
   |split at he)
 ·unfold rY at he
  repeat'(first
   |with_reducible exact jq he
   |with_reducible exact ku he
   |(simp only[reduceCtorEq]at he;done)
   |(simp only[AC]at he;subst he;exact er)
   |(simp only[Do]at he;obtain⟨_,_,he⟩:=he)
   |(simp only[GE]at he;obtain⟨_,_,he⟩:=he;subst he;exact er)
   |split at he)
 ·exact jq he
 ·unfold uN at he
  repeat'(first
   |with_reducible exact jq he
   |with_reducible exact ku he
   |(simp only[reduceCtorEq]at he;done)
   |(simp only[AC]at he;subst he;exact er)
   |(simp only[Do]at he;obtain⟨_,_,he⟩:=he)
   |(simp only[GE]at he;obtain⟨_,_,he⟩:=he;subst he;exact er)
   |split at he)
 ·split at he
  ·cases he
  ·unfold rZ at he
   repeat'(first
    |with_reducible exact jq he
    |with_reducible exact ku he
    |(simp only[reduceCtorEq]at he;done)
    |(simp only[AC]at he;subst he;exact er)
    |(simp only[Do]at he;obtain⟨_,_,he⟩:=he)
    |(simp only[GE]at he;obtain⟨_,_,he⟩:=he;subst he;exact er)
    |split at he)
 ·unfold wO at he
  repeat'(first
   |with_reducible exact jq he
   |with_reducible exact ku he
   |(simp only[reduceCtorEq]at he;done)
   |(simp only[AC]at he;subst he;exact er)
   |(simp only[Do]at he;obtain⟨_,_,he⟩:=he)
   |(simp only[GE]at he;obtain⟨_,_,he⟩:=he;subst he;exact er)
   |split at he)
 ·unfold BL at he
  repeat'(first
   |with_reducible exact jq he
   |with_reducible exact ku he
   |(simp only[reduceCtorEq]at he;done)
   |(simp only[AC]at he;subst he;exact er)
   |(simp only[Do]at he;obtain⟨_,_,he⟩:=he)
   |(simp only[GE]at he;obtain⟨_,_,he⟩:=he;subst he;exact er)
   |split at he)
 ·unfold pY at he
  repeat'(first
   |with_reducible exact jq he
   |with_reducible exact ku he
   |(simp only[reduceCtorEq]at he;done)
   |(simp only[AC]at he;subst he;exact er)
   |(simp only[Do]at he;obtain⟨_,_,he⟩:=he)
   |(simp only[GE]at he;obtain⟨_,_,he⟩:=he;subst he;exact er)
   |split at he)
 ·unfold wP at he
  repeat'(first
   |with_reducible exact jq he
   |with_reducible exact ku he
   |(simp only[reduceCtorEq]at he;done)
   |(simp only[AC]at he;subst he;exact er)
   |(simp only[Do]at he;obtain⟨_,_,he⟩:=he)
   |(simp only[GE]at he;obtain⟨_,_,he⟩:=he;subst he;exact er)
   |split at he)
 ·unfold BK at he
  repeat'(first
   |with_reducible exact jq he
   |with_reducible exact ku he
   |(simp only[reduceCtorEq]at he;done)
   |(simp only[AC]at he;subst he;exact er)
   |(simp only[Do]at he;obtain⟨_,_,he⟩:=he)
   |(simp only[GE]at he;obtain⟨_,_,he⟩:=he;subst he;exact er)
   |split at he)
 ·unfold HN at he
  repeat'(first
   |with_reducible exact jq he
   |with_reducible exact ku he
   |(simp only[reduceCtorEq]at he;done)
   |(simp only[AC]at he;subst he;exact er)
   |(simp only[Do]at he;obtain⟨_,_,he⟩:=he)
   |(simp only[GE]at he;obtain⟨_,_,he⟩:=he;subst he;exact er)
   |split at he)
 ·simp[y8,pE]at he
 ·simp[y7,pE]at he
 ·simp[uO,pE]at he
 ·simp[uO,pE]at he
 ·rename_i c ho
  split at he
  ·unfold tv at he
   repeat'(first
    |with_reducible exact jq he
    |with_reducible exact ku he
    |(simp only[reduceCtorEq]at he;done)
    |(simp only[AC]at he;subst he;exact er)
    |(simp only[Do]at he;obtain⟨_,_,he⟩:=he)
    |(simp only[GE]at he;obtain⟨_,_,he⟩:=he;subst he;exact er)
    |split at he)
  ·simp only[Do]at he
   obtain⟨e1,B0,w4⟩:=he
   refine alf w4 ?_
   clear w4
   have he:=B0
   clear B0
   unfold nL Bs Bt oo at he
   repeat'(first
    |with_reducible exact jq he
    |with_reducible exact ku he
    |(simp only[reduceCtorEq]at he;done)
    |(simp only[AC]at he;subst he;exact er)
    |(simp only[Do]at he;obtain⟨_,_,he⟩:=he)
    |(simp only[GE]at he;obtain⟨_,_,he⟩:=he;subst he;exact er)
    |split at he)
  ·simp[y6]at he
  ·repeat'(first
    |with_reducible exact jq he
    |with_reducible exact ku he
    |(simp only[reduceCtorEq]at he;done)
    |(simp only[AC]at he;subst he;exact er)
    |(simp only[Do]at he;obtain⟨_,_,he⟩:=he)
    |(simp only[GE]at he;obtain⟨_,_,he⟩:=he;subst he;exact er)
    |split at he)
  ·repeat'(first
    |with_reducible exact jq he
    |with_reducible exact ku he
    |(simp only[reduceCtorEq]at he;done)
    |(simp only[AC]at he;subst he;exact er)
    |(simp only[Do]at he;obtain⟨_,_,he⟩:=he)
    |(simp only[GE]at he;obtain⟨_,_,he⟩:=he;subst he;exact er)
    |split at he)
  ·rename_i cW hc
   split at he
   ·unfold qL at he
    simp only[Do]at he
    obtain⟨x,_,he⟩:=he
    split at he
    ·cases he
    ·generalize(if fP C f o.dst=true then(if flat x.r=true then ey x.r else .aW)else x.r)=rr at he
     split at he
     ·simp only[AC]at he;subst he;exact er
     ·cases he
   split at he
   ·simp[wQ]at he
   ·split at he
    ·split at he
     ·exact alg he
     ·cases he
    ·unfold tf at he
     split at he
     ·split at he
      ·unfold zZ at he
       repeat'(first
        |(simp only[reduceCtorEq]at he;done)
        |(simp only[AC]at he;subst he;exact er)
        |split at he)
      split at he
      ·split at he
       ·generalize(if fP C f o.dst=true then _ else _)=r' at he
        split at he
        ·cases he
        ·split at he
         ·simp only[AC]at he;subst he;exact er
         ·cases he
       ·cases he
      ·cases he
     ·cases he
  ·cases he
 ·cases he
end
open Go
inductive kT(C:aF)(f:FuncId)(call:FuncId->List U->Option (U×List U))(ops:Array Oper)(S:aj)(o:Oper):bn->Prop|yes{e e':bn}:p8 S ops o=some true->bU C f call S true o=some e->e'.rd=e.rd->e'.wr=e.wr->(e'=e∨∃v,e.eu=(put o v [] []).eu∧e'.eu=(put o (.dV true v) [] []).eu)->kT C f call ops S o e'|no{e':bn}{x:U}:p8 S ops o=some false->e'.wr=[]->(x= .aW∨∃y,x= .dV false y)->e'.eu=(put o x [] []).eu->kT C f call ops S o e'
section
variable{C:aF}{E:Env}{w:World}{S:aj}{a:Act}{β:Id->Option Loc}{F:Id->List Nat}
variable{next:Act->World->Prop}{Q:Exit->Act->World->Prop}
variable{f:FuncId}{call:FuncId->List U->Option (U×List U)}{ops:Array Oper}
theorem R.RC{I:Nat->Prop}{g:List Nat}{v:Value}{x:U}(h:R w I β g v (.dV false x)):v=undef:=by cases h;rfl
theorem BH{o:Oper}{e:bn}(h:tu C f call S ops o=some e):kT C f call ops S o e:=by unfold tu at h;split at h;·{cases h};·rename_i g hg;split at h;·{rename_i hn;have:g=true:=by{simpa[p8,hn]using hg.symm};subst this;exact .yes hg h rfl rfl (.inl rfl)};·split at h;·{rename_i e0 EM;split at h;·{rename_i hw;simp only[AC]at h;subst h;rcases Oi EM with⟨v,hv⟩|⟨hne,_⟩;·{cases g with|true=>(refine .yes hg EM rfl rfl (.inr ⟨v,hv, ?_⟩);simp only[hv,put];cases o.dst<;>rfl)|false=>refine .no (x:= .dV false v) hg (by simpa using hw) (.inr ⟨v,rfl⟩) ?_;simp only[hv,put];cases o.dst<;>rfl};·exact absurd (by simpa using hw) hne};·cases g with|true=>(simp only[if_true,AC]at h;subst h;exact .yes hg EM rfl rfl (.inl rfl))|false=>simp only[GT,if_false,AC]at h;subst h;exact .no hg rfl (.inr ⟨_,rfl⟩) rfl};·cases g with|true=>(simp at h)|false=>simp only[GT,if_false,AC]at h;subst h;exact .no hg rfl (.inr ⟨_,rfl⟩) rfl
theorem Ox(h:aY C E w S a β F){o:Oper}{g:Bool}(hg:p8 S ops o=some g):Region.wanted o (yielded ops a.tmps)=g:=by unfold p8 at hg;unfold Region.wanted;cases hgd:o.guard with|none=>(simp[hgd]at hg;simp[hg])|some MH=>obtain⟨j,want⟩:=MH;simp only[hgd]at hg|-;unfold yielded;cases hd:(ops[j]?).bind (·.dst)with|none=>(simp[hd]at hg)|some d=>simp only[hd]at hg;simp only[Option.bind_some];have hr:=h.slot d;have tJ:∀b,a.tmps.getD d undef= .bool b->a.tmps[d]? =some (.bool b):=fun b hb=>by{rw[Ha]at hb;cases hx:a.tmps[d]? with|none=>(rw[hx]at hb;simp[undef]at hb)|some x=>rw[hx]at hb;simpa using hb};split at hg;·{rename_i b hb;rw[hb]at hr;rw[tJ b hr.jA.2];simpa using hg};·{rename_i g' b hb;rw[hb]at hr;simp only[AC]at hg;cases g' with|true=>(have:=(hr.RD.2 rfl).jA.2;rw[tJ b this];simpa using hg)|false=>have hu:=hr.RC;have hnb:∀b,a.tmps[d]? ≠some (.bool b):=fun b hx=>by{rw[Ha,hx]at hu;simp[undef]at hu};have:g=false:=by{simpa using hg.symm};subst this;cases hx:a.tmps[d]? with|none=>(rfl)|some x=>cases x<;>first|rfl|exact absurd hx (hnb _)};·{rename_i x hb;rw[hb]at hr;have hu:=hr.RC;have hnb:∀b,a.tmps[d]? ≠some (.bool b):=fun b hx=>by{rw[Ha,hx]at hu;simp[undef]at hu};have:g=false:=by{simpa using hg.symm};subst this;cases hx:a.tmps[d]? with|none=>(rfl)|some x=>cases x<;>first|rfl|exact absurd hx (hnb _)};·cases hg
theorem aif(hN:kV C)(dD:∀k as r,call k as=some r->Sound C k as r)(h:aY C E w S a β F){o:Oper}{e:bn}(he:kT C f call ops S o e)(hd:dc S e)(hn:∀a' w',bA C E (S.app e) a' w'->next a' w'):if Region.wanted o (yielded ops a.tmps)then o.wp C.P a w next Q else next (a.put o.dst undef) w:=by cases he with| @yes e0 _ hg hop hrd hwr gY=>(rw[Ox h hg,if_pos rfl];rcases gY with rfl|⟨v,hv,qW⟩;·{exact Ny hN dD h hop hd hn};·have Il:dc S e0:=by{unfold dc at hd|-;rw[hv];rw[qW]at hd;cases bO:o.dst<;>simp[put,bO]at hd|-;exact hd};refine Ny hN dD h hop Il fun a' w' hx=>hn a' w' ?_;obtain⟨β',F',hx⟩:=hx;refine⟨β',F', ?_⟩;cases bO:o.dst with|none=>(have e1:S.app e=S.app e0:=by{simp[aj.app,hv,qW,hwr,put,bO]};rw[e1];exact hx)|some d=>have hs:=hx.slot d;have e2:(S.app e0).t d=v:=by{simp[aj.app,hv,put,bO,dR,au]};rw[e2]at hs;have:=hx.Vi d (.r6 hs);have e1:S.app e=⟨(S.app e0).n,au (S.app e0).t d (.dV true v),(S.app e0).h⟩:=by{simp only[aj.app,hv,qW,hwr,put,bO,dR,aj.mk.injEq,true_and,and_true];funext t;simp only[au];split<;>rfl};rw[e1];exact this)| @no _ x hg hwr hx gY=>rw[Ox h hg];simp only[GT,if_false];refine hn _ _ ⟨β,F, ?_⟩;have e1:S.app e=S.app (put o x [] []):=by{simp[aj.app,gY,hwr,put]};rw[e1];have Il:dc S (put o x [] []):=by{unfold dc at hd|-;rw[gY]at hd;exact hd};refine h.val o [] ?_ Il;rcases hx with rfl|⟨y,rfl⟩;·{exact .aW};·exact .r5
theorem amm{P:Program}{o:Oper}{next next':Act->World->Prop}(h:o.wp P a w next Q)(hn:∀a' w' v,a'.tmps=(a.put o.dst v).tmps->next a' w'->next' a' w'):o.wp P a w next' Q:=by unfold Oper.wp at h|-;cases hr:(execOp a.eval o).run P w with|ok x w1=>(rw[hr]at h;cases x with|value v=>(exact hn _ _ v rfl h)|skip=>(exact hn _ _ undef rfl h)|defer d=>(exact hn _ _ undef (by cases o.dst<;>rfl) h)|enter f args=>(simp only[Oper.upon]at h|-;refine h.mono fun e w'' hh=> ?_;cases e with|returned v=>(exact hn _ _ v rfl hh)|_=>exact hh)|row r args=>(exact Rows.mono h fun v w'' hh=>hn _ _ v rfl hh)|_=>exact h)|halt x w1=>rw[hr]at h;cases x<;>exact h
def s5(K:Act->Prop)(ops:Array Oper):Prop:=∀(i:Nat)(o:Oper),ops[i]? =some o->∀a a' v,K a->a'.tmps=(a.put o.dst v).tmps->K a'
theorem Fx{K:Act->Prop}(hN:kV C)(dD:∀k as r,call k as=some r->Sound C k as r)(h:aY C E w S a β F){o:Oper}{e:bn}(he:kT C f call ops S o e)(hd:dc S e)(hk:∀a' v,a'.tmps=(a.put o.dst v).tmps->K a')(hn:∀a' w',bA C E (S.app e) a' w'->K a'->next a' w'):if Region.wanted o (yielded ops a.tmps)then o.wp C.P a w next Q else next (a.put o.dst undef) w:=by have:=aif (Q:=Q) (next:=bA C E (S.app e)) hN dD h he hd (fun _ _ h=>h);split at this;·{rename_i hw;rw[if_pos hw];exact amm this fun a' w' v e h=>hn _ _ h (hk _ v e)};·rename_i hw;rw[if_neg hw];exact hn _ _ this (hk _ undef rfl)
theorem TJ{K:Act->Prop}(jt:s5 K ops)(hN:kV C)(dD:∀k as r,call k as=some r->Sound C k as r):∀(l:List Oper)(i:Nat){S S':aj}{ks:List eO}{a:Act}{w:World},(∀j,l[j]? =ops[i+j]?)->mA C f call ops i l S=some (S',ks)->bA C E S a w->K a->(∀a' w',bA C E S' a' w'->K a'->Q .normal a' w')->wpOps C.P ops Q (List.range' i l.length) a w|[],i,S,S',ks,a,w,_,h,hS,hK,hq=>by{simp[mA]at h;obtain⟨rfl,_⟩:=h;exact hq _ _ hS hK}|o::l,i,S,S',ks,a,w,hl,h,hS,hK,hq=>by have h0:ops[i]? =some o:=by{simpa using(hl 0).symm};simp only[mA,Do]at h;obtain⟨e,he,h⟩:=h;split at h;·{rename_i hd;obtain⟨⟨bM,k1⟩,h1,h2⟩:=Option.map_eq_some_iff.1 h;simp only[Prod.mk.injEq]at h2;obtain⟨rfl,_⟩:=h2;obtain⟨β,F,hS⟩:=hS;rw[List.length_cons,List.range'_succ,wpOps_cons];unfold wpOp;simp only[h0];have:=Fx (Q:=Q) (K:=K) (next:=wpOps C.P ops Q (List.range' (i+1) l.length)) hN dD hS (BH he) hd (fun a' v e=>jt i o h0 a a' v hK e) fun a' w' hx hk=>TJ jt hN dD l (i+1) (fun j=>by have:=hl (j+1);simpa[Nat.add_assoc,Nat.add_comm 1 j]using this) h1 hx hk hq;split at this;·{rename_i hw;simp only[hw,if_true];exact .inl this};·rename_i hw;simp only[hw];exact this};·cases h
end
end Go.Ab
