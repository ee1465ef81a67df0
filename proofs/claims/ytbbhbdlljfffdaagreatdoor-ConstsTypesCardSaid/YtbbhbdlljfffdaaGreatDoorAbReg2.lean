import Derived.Test.YtbbhbdlljfffdaaGreatDoorAbGr
open Array renaming getD_eq_getD_getElem?->Ha
open Bool renaming false_eq_true->GT
open Option renaming bind_eq_some_iff->Do,map_eq_some_iff->GE
open Option.some renaming injEq->AC
set_option linter.all false
namespace Go.Ab
open Go
section
variable{C:aF}{E:Env}{w:World}{S:ah}{a:Act}{β:Id->Option Loc}{F:Id->List Nat}
variable{next:Act->World->Prop}{Q:Exit->Act->World->Prop}
theorem HI(hN:kI C){f:FuncId}{call:FuncId->List U->Option (U×List U)}(dU:∀k as r,call k as=some r->Sound C k as r)(h:aG C E w S a β F){o:Oper}{e:bh}(he:bk C f call S true o=some e)(hd:cC S e)(hn:∀a' w',br C E (S.app e) a' w'->next a' w'):o.wp C.P a w next Q:=by unfold bk at he;split at he;·{rename_i x ho;exact TP h (.inl ho) he hd hn};·{rename_i x ho;exact TP h (.inr ho) he hd hn};·{rename_i c x y ho;exact aiN h ho he hd hn};·{rename_i t ho;exact aie h ho he hd hn};·{rename_i t x ho;exact aik h ho he hd hn};·{rename_i t p ho;exact ail h ho he hd hn};·{rename_i t n p ho;exact ain h ho he hd hn};·{rename_i t x ho;exact aiG h ho he hd hn};·{rename_i t x y ho;exact aiR h ho he hd hn};·{rename_i x ho;exact aiM h ho he hd hn};·{rename_i ho;exact aii h ho he hd hn};·{rename_i ho;exact aiS h ho he hd hn};·{rename_i ho;exact ais h ho he hd hn};·{rename_i ho;exact aiB h ho he hd hn};·{rename_i ho;exact aiK h ho he hd hn};·{rename_i ho;exact aiJ h ho he hd hn};·{rename_i t x lo hi mx ho;cases mx with|none=>(exact ok_slice h ho (by simpa using he) hd hn)|some m=>simp at he};·{rename_i ho;exact aiy h ho he hd hn};·{rename_i ho;exact aix h ho he hd hn};·{rename_i ho;exact aiD h ho he hd hn};·{rename_i ho;exact aiC h ho he hd hn};·{rename_i ho;exact aiw h ho he hd hn};·{rename_i ho;exact aiL h ho he hd hn};·{rename_i ho;exact aiI h ho he hd hn};·{rename_i ho;exact TO h (.inl ho) he hd hn};·{rename_i ho;exact TO h (.inr ho) he hd hn};·{rename_i c ho;split at he;·{rename_i hc;exact aiF h ho hc he hd hn};·{rename_i hc;exact aif h ho hc he hd hn};·{rename_i hc;exact aiu h ho hc he hd hn};·{rename_i hc;split at he;·{rename_i vs hv;exact TR h ho hc _ (fun _ _=>rfl) hv he hd hn};·cases he};·{rename_i hc;split at he;·{rename_i vs hv;exact TR h ho hc _ (fun _ _=>rfl) hv he hd hn};·cases he};·{rename_i aI hc;split at he;·{rename_i x dR;exact aiq hN.no h ho hc dU dR he hd hn};·rename_i dR;split at he;·{rename_i p hp;unfold pathOf at hp;split at hp;·{exact aiE hN.no h ho hc (hN.path _ _ hp) he hd hn};·cases hp};·split at he;·{split at he;·{rename_i k;refine air hN.no h ho hc dU ?_ he hd hn;simp only[ah.get,un,oa]at dR;split at dR;·{cases dR};·rename_i hg;simpa using hg};·cases he};·exact aip hN.no hN.look h ho hc dU dR he hd hn};·cases he};·cases he
/-! ### What an operation writes among the slots -/
def Shaped(C:aF)(f:FuncId)(o:Oper)(e:bh):Prop:=(∃v,e.dA=(put o v [] []).dA)∨(e.wr≠[]∧∀x∈e.dA,x.1∈rz C f o)
theorem cR{C:aF}{f:FuncId}{o:Oper}{v:U}{rd:List Id}{wr:List (Id×Option Rows)}:Shaped C f o (put o v rd wr):= .inl ⟨v,rfl⟩
theorem fX{C:aF}{f:FuncId}{o:Oper}{v:U}{e:bh}(h:ret o v=some e):Shaped C f o e:=by have:=gZ h;subst this;exact cR
theorem gN{C:aF}{f:FuncId}{o:Oper}{v:Option Value}{e:bh}(h:kX o v=some e):Shaped C f o e:=by unfold kX at h;split at h;·{split at h;·{exact fX h};·cases h};·cases h
theorem akY{C:aF}{f:FuncId}{o:Oper}{e1 e:bh}(h:tG C f o e1=some e)(h1:Shaped C f o e1):Shaped C f o e:=by unfold tG at h;split at h;·{split at h;·{split at h;·{simp only[AC]at h;subst h;exact cR};·cases h};·{split at h;·{simp only[AC]at h;subst h;exact cR};·cases h};·cases h};·simp only[AC]at h;subst h;exact h1
theorem akZ{C:aF}{f:FuncId}{call:FuncId->List U->Option (U×List U)}{S:ah}{o:Oper}{e:bh}{k:FuncId}{args:List U}(he:rU C f call S o k args=some e):Shaped C f o e:=by unfold rU at he;split at he;·{split at he;·{generalize(if eX C f o.dst=true then _ else _)=r' at he;split at he;·{split at he;·{simp only[AC]at he;subst he;exact cR};·cases he};·cases he};·cases he};·cases he
theorem Nt{C:aF}{f:FuncId}{call:FuncId->List U->Option (U×List U)}{S:ah}{g:Bool}{o:Oper}{e:bh}(he:bk C f call S g o=some e):Shaped C f o e:=by
 unfold bk at he
 split at he
 ·exact fX he
 ·exact fX he
 ·unfold va at he
  repeat'(first
   |with_reducible exact fX he
   |with_reducible exact gN he
   |(simp only[reduceCtorEq]at he;done)
   |(simp only[AC]at he;subst he;exact cR)
   |(simp only[Do]at he;obtain⟨_,_,he⟩:=he)
   |(simp only[GE]at he;obtain⟨_,_,he⟩:=he;subst he;exact cR)
   |split at he)
 ·unfold tw at he
  repeat'(first
   |with_reducible exact fX he
   |with_reducible exact gN he
   |(simp only[reduceCtorEq]at he;done)
   |(simp only[AC]at he;subst he;exact cR)
   |(simp only[Do]at he;obtain⟨_,_,he⟩:=he)
   |(simp only[GE]at he;obtain⟨_,_,he⟩:=he;subst he;exact cR)
   |split at he)
 ·unfold qR at he
  repeat'(first
   |with_reducible exact fX he
   |with_reducible exact gN he
   |(simp only[reduceCtorEq]at he;done)
   |(simp only[AC]at he;subst he;exact cR)
   |(simp only[Do]at he;obtain⟨_,_,he⟩:=he)
   |(simp only[GE]at he;obtain⟨_,_,he⟩:=he;subst he;exact cR)
   |split at he)
 ·unfold u0 at he
  repeat'(first
   |with_reducible exact fX he
   |with_reducible exact gN he
   |(simp only[reduceCtorEq]at he;done)
   |(simp only[AC]at he;subst he;exact cR)
   |(simp only[Do]at he;obtain⟨_,_,he⟩:=he)
   |(simp only[GE]at he;obtain⟨_,_,he⟩:=he;subst he;exact cR)
   |split at he)
 ·unfold qS Cw tA at he
  repeat'(first
   |with_reducible exact fX he
   |with_reducible exact gN he
   |(simp only[reduceCtorEq]at he;done)
   |(simp only[AC]at he;subst he;exact cR)
   |(simp only[Do]at he;obtain⟨_,_,he⟩:=he)
   |(simp only[GE]at he;obtain⟨_,_,he⟩:=he;subst he;exact cR)
   |split at he)
 ·unfold lU at he
  repeat'(first
   |with_reducible exact fX he
   |with_reducible exact gN he
   |(simp only[reduceCtorEq]at he;done)
   |(simp only[AC]at he;subst he;exact cR)
   |(simp only[Do]at he;obtain⟨_,_,he⟩:=he)
   |(simp only[GE]at he;obtain⟨_,_,he⟩:=he;subst he;exact cR)
   |split at he)
 ·rename_i t ao x ho
  unfold oP at he
  split at he
  ·split at he
   ·split at he
    ·cases he
    ·split at he
     ·obtain⟨r,_,he⟩:=Option.bind_eq_some_iff.1 he
      split at he
      ·split at he
       ·rename_i ta tU
        split at he
        ·rename_i hc
         simp only[Bool.and_eq_true,Option.isNone_iff_eq_none]at hc
         simp only[AC]at he;subst he
         refine .inr ⟨by simp,fun y hy=> ?_⟩
         obtain rfl:=List.mem_singleton.1 hy
         unfold rz
         simp[ho,tU]
        ·cases he
       ·split at he
        ·simp only[AC]at he;subst he;exact cR
        ·cases he
      ·cases he
     ·cases he
   ·cases he
  ·cases he
 ·unfold zV at he
  repeat'(first
   |with_reducible exact fX he
   |with_reducible exact gN he
   |(simp only[reduceCtorEq]at he;done)
   |(simp only[AC]at he;subst he;exact cR)
   |(simp only[Do]at he;obtain⟨_,_,he⟩:=he)
   |(simp only[GE]at he;obtain⟨_,_,he⟩:=he;subst he;exact cR)
   |split at he)
 ·unfold nk at he
  repeat'(first
   |with_reducible exact fX he
   |with_reducible exact gN he
   |(simp only[reduceCtorEq]at he;done)
   |(simp only[AC]at he;subst he;exact cR)
   |(simp only[Do]at he;obtain⟨_,_,he⟩:=he)
   |(simp only[GE]at he;obtain⟨_,_,he⟩:=he;subst he;exact cR)
   |split at he)
 ·unfold xo at he
  repeat'(first
   |with_reducible exact fX he
   |with_reducible exact gN he
   |(simp only[reduceCtorEq]at he;done)
   |(simp only[AC]at he;subst he;exact cR)
   |(simp only[Do]at he;obtain⟨_,_,he⟩:=he)
   |(simp only[GE]at he;obtain⟨_,_,he⟩:=he;subst he;exact cR)
   |split at he)
 ·unfold tB FX Cx at he
  repeat'(first
   |with_reducible exact fX he
   |with_reducible exact gN he
   |(simp only[reduceCtorEq]at he;done)
   |(simp only[AC]at he;subst he;exact cR)
   |(simp only[Do]at he;obtain⟨_,_,he⟩:=he)
   |(simp only[GE]at he;obtain⟨_,_,he⟩:=he;subst he;exact cR)
   |split at he)
 ·unfold u6 at he
  repeat'(first
   |with_reducible exact fX he
   |with_reducible exact gN he
   |(simp only[reduceCtorEq]at he;done)
   |(simp only[AC]at he;subst he;exact cR)
   |(simp only[Do]at he;obtain⟨_,_,he⟩:=he)
   |(simp only[GE]at he;obtain⟨_,_,he⟩:=he;subst he;exact cR)
   |split at he)
 ·exact fX he
 ·unfold tC at he
  repeat'(first
   |with_reducible exact fX he
   |with_reducible exact gN he
   |(simp only[reduceCtorEq]at he;done)
   |(simp only[AC]at he;subst he;exact cR)
   |(simp only[Do]at he;obtain⟨_,_,he⟩:=he)
   |(simp only[GE]at he;obtain⟨_,_,he⟩:=he;subst he;exact cR)
   |split at he)
 ·split at he
  ·cases he
  ·unfold oO at he
   repeat'(first
    |with_reducible exact fX he
    |with_reducible exact gN he
    |(simp only[reduceCtorEq]at he;done)
    |(simp only[AC]at he;subst he;exact cR)
    |(simp only[Do]at he;obtain⟨_,_,he⟩:=he)
    |(simp only[GE]at he;obtain⟨_,_,he⟩:=he;subst he;exact cR)
    |split at he)
 ·unfold r3 at he
  repeat'(first
   |with_reducible exact fX he
   |with_reducible exact gN he
   |(simp only[reduceCtorEq]at he;done)
   |(simp only[AC]at he;subst he;exact cR)
   |(simp only[Do]at he;obtain⟨_,_,he⟩:=he)
   |(simp only[GE]at he;obtain⟨_,_,he⟩:=he;subst he;exact cR)
   |split at he)
 ·unfold zU at he
  repeat'(first
   |with_reducible exact fX he
   |with_reducible exact gN he
   |(simp only[reduceCtorEq]at he;done)
   |(simp only[AC]at he;subst he;exact cR)
   |(simp only[Do]at he;obtain⟨_,_,he⟩:=he)
   |(simp only[GE]at he;obtain⟨_,_,he⟩:=he;subst he;exact cR)
   |split at he)
 ·unfold nq at he
  repeat'(first
   |with_reducible exact fX he
   |with_reducible exact gN he
   |(simp only[reduceCtorEq]at he;done)
   |(simp only[AC]at he;subst he;exact cR)
   |(simp only[Do]at he;obtain⟨_,_,he⟩:=he)
   |(simp only[GE]at he;obtain⟨_,_,he⟩:=he;subst he;exact cR)
   |split at he)
 ·unfold u7 at he
  repeat'(first
   |with_reducible exact fX he
   |with_reducible exact gN he
   |(simp only[reduceCtorEq]at he;done)
   |(simp only[AC]at he;subst he;exact cR)
   |(simp only[Do]at he;obtain⟨_,_,he⟩:=he)
   |(simp only[GE]at he;obtain⟨_,_,he⟩:=he;subst he;exact cR)
   |split at he)
 ·unfold zT at he
  repeat'(first
   |with_reducible exact fX he
   |with_reducible exact gN he
   |(simp only[reduceCtorEq]at he;done)
   |(simp only[AC]at he;subst he;exact cR)
   |(simp only[Do]at he;obtain⟨_,_,he⟩:=he)
   |(simp only[GE]at he;obtain⟨_,_,he⟩:=he;subst he;exact cR)
   |split at he)
 ·unfold tD at he
  repeat'(first
   |with_reducible exact fX he
   |with_reducible exact gN he
   |(simp only[reduceCtorEq]at he;done)
   |(simp only[AC]at he;subst he;exact cR)
   |(simp only[Do]at he;obtain⟨_,_,he⟩:=he)
   |(simp only[GE]at he;obtain⟨_,_,he⟩:=he;subst he;exact cR)
   |split at he)
 ·unfold oN at he
  repeat'(first
   |with_reducible exact fX he
   |with_reducible exact gN he
   |(simp only[reduceCtorEq]at he;done)
   |(simp only[AC]at he;subst he;exact cR)
   |(simp only[Do]at he;obtain⟨_,_,he⟩:=he)
   |(simp only[GE]at he;obtain⟨_,_,he⟩:=he;subst he;exact cR)
   |split at he)
 ·unfold qT at he
  repeat'(first
   |with_reducible exact fX he
   |with_reducible exact gN he
   |(simp only[reduceCtorEq]at he;done)
   |(simp only[AC]at he;subst he;exact cR)
   |(simp only[Do]at he;obtain⟨_,_,he⟩:=he)
   |(simp only[GE]at he;obtain⟨_,_,he⟩:=he;subst he;exact cR)
   |split at he)
 ·unfold qT at he
  repeat'(first
   |with_reducible exact fX he
   |with_reducible exact gN he
   |(simp only[reduceCtorEq]at he;done)
   |(simp only[AC]at he;subst he;exact cR)
   |(simp only[Do]at he;obtain⟨_,_,he⟩:=he)
   |(simp only[GE]at he;obtain⟨_,_,he⟩:=he;subst he;exact cR)
   |split at he)
 ·rename_i c ho
  split at he
  ·unfold r4 at he
   repeat'(first
    |with_reducible exact fX he
    |with_reducible exact gN he
    |(simp only[reduceCtorEq]at he;done)
    |(simp only[AC]at he;subst he;exact cR)
    |(simp only[Do]at he;obtain⟨_,_,he⟩:=he)
    |(simp only[GE]at he;obtain⟨_,_,he⟩:=he;subst he;exact cR)
    |split at he)
  ·simp only[Do]at he
   obtain⟨e1,Ai,vh⟩:=he
   refine akY vh ?_
   clear vh
   have he:=Ai
   clear Ai
   unfold n6 zz zA nY at he
   repeat'(first
    |with_reducible exact fX he
    |with_reducible exact gN he
    |(simp only[reduceCtorEq]at he;done)
    |(simp only[AC]at he;subst he;exact cR)
    |(simp only[Do]at he;obtain⟨_,_,he⟩:=he)
    |(simp only[GE]at he;obtain⟨_,_,he⟩:=he;subst he;exact cR)
    |split at he)
  ·unfold xm at he
   repeat'(first
    |with_reducible exact fX he
    |with_reducible exact gN he
    |(simp only[reduceCtorEq]at he;done)
    |(simp only[AC]at he;subst he;exact cR)
    |(simp only[Do]at he;obtain⟨_,_,he⟩:=he)
    |(simp only[GE]at he;obtain⟨_,_,he⟩:=he;subst he;exact cR)
    |split at he)
  ·repeat'(first
    |with_reducible exact fX he
    |with_reducible exact gN he
    |(simp only[reduceCtorEq]at he;done)
    |(simp only[AC]at he;subst he;exact cR)
    |(simp only[Do]at he;obtain⟨_,_,he⟩:=he)
    |(simp only[GE]at he;obtain⟨_,_,he⟩:=he;subst he;exact cR)
    |split at he)
  ·repeat'(first
    |with_reducible exact fX he
    |with_reducible exact gN he
    |(simp only[reduceCtorEq]at he;done)
    |(simp only[AC]at he;subst he;exact cR)
    |(simp only[Do]at he;obtain⟨_,_,he⟩:=he)
    |(simp only[GE]at he;obtain⟨_,_,he⟩:=he;subst he;exact cR)
    |split at he)
  ·rename_i aI hc
   split at he
   ·unfold qO at he
    simp only[Do]at he
    obtain⟨x,_,he⟩:=he
    split at he
    ·cases he
    ·generalize(if eX C f o.dst=true then(if flat x.r=true then dF x.r else .bf)else x.r)=rr at he
     split at he
     ·simp only[AC]at he;subst he;exact cR
     ·cases he
   split at he
   ·unfold u9 at he
    repeat'(first
     |with_reducible exact fX he
     |with_reducible exact gN he
     |(simp only[reduceCtorEq]at he;done)
     |(simp only[AC]at he;subst he;exact cR)
     |(simp only[Do]at he;obtain⟨_,_,he⟩:=he)
     |(simp only[GE]at he;obtain⟨_,_,he⟩:=he;subst he;exact cR)
     |split at he)
   ·split at he
    ·split at he
     ·exact akZ he
     ·cases he
    ·unfold qN at he
     split at he
     ·split at he
      ·unfold vF at he
       repeat'(first
        |(simp only[reduceCtorEq]at he;done)
        |(simp only[AC]at he;subst he;exact cR)
        |split at he)
      split at he
      ·split at he
       ·generalize(if eX C f o.dst=true then _ else _)=r' at he
        split at he
        ·cases he
        ·split at he
         ·simp only[AC]at he;subst he;exact cR
         ·cases he
       ·cases he
      ·cases he
     ·cases he
  ·cases he
 ·cases he
end
open Go
inductive oF(C:aF)(f:FuncId)(call:FuncId->List U->Option (U×List U))(ops:Array Oper)(S:ah)(o:Oper):bh->Prop|yes{e e':bh}:r7 S ops o=some true->bk C f call S true o=some e->e'.rd=e.rd->e'.wr=e.wr->(e'=e∨∃v,e.dA=(put o v [] []).dA∧e'.dA=(put o (.c8 true v) [] []).dA)->oF C f call ops S o e'|no{e':bh}{x:U}:r7 S ops o=some false->e'.wr=[]->(x= .bf∨∃y,x= .c8 false y)->e'.dA=(put o x [] []).dA->oF C f call ops S o e'
section
variable{C:aF}{E:Env}{w:World}{S:ah}{a:Act}{β:Id->Option Loc}{F:Id->List Nat}
variable{next:Act->World->Prop}{Q:Exit->Act->World->Prop}
variable{f:FuncId}{call:FuncId->List U->Option (U×List U)}{ops:Array Oper}
theorem R.Ro{I:Nat->Prop}{g:List Nat}{v:Value}{x:U}(h:R w I β g v (.c8 false x)):v=undef:=by cases h;rfl
theorem JK{o:Oper}{e:bh}(h:u5 C f call S ops o=some e):oF C f call ops S o e:=by unfold u5 at h;split at h;·{cases h};·rename_i g hg;split at h;·{rename_i hn;have:g=true:=by{simpa[r7,hn]using hg.symm};subst this;exact .yes hg h rfl rfl (.inl rfl)};·split at h;·{rename_i e0 C0;split at h;·{rename_i hw;simp only[AC]at h;subst h;rcases Nt C0 with⟨v,hv⟩|⟨hne,_⟩;·{cases g with|true=>(refine .yes hg C0 rfl rfl (.inr ⟨v,hv, ?_⟩);simp only[hv,put];cases o.dst<;>rfl)|false=>refine .no (x:= .c8 false v) hg (by simpa using hw) (.inr ⟨v,rfl⟩) ?_;simp only[hv,put];cases o.dst<;>rfl};·exact absurd (by simpa using hw) hne};·cases g with|true=>(simp only[if_true,AC]at h;subst h;exact .yes hg C0 rfl rfl (.inl rfl))|false=>simp only[GT,if_false,AC]at h;subst h;exact .no hg rfl (.inr ⟨_,rfl⟩) rfl};·cases g with|true=>(simp at h)|false=>simp only[GT,if_false,AC]at h;subst h;exact .no hg rfl (.inr ⟨_,rfl⟩) rfl
theorem VK(h:aG C E w S a β F){o:Oper}{g:Bool}(hg:r7 S ops o=some g):Region.wanted o (yielded ops a.tmps)=g:=by unfold r7 at hg;unfold Region.wanted;cases hgd:o.guard with|none=>(simp[hgd]at hg;simp[hg])|some LP=>obtain⟨j,want⟩:=LP;simp only[hgd]at hg|-;unfold yielded;cases hd:(ops[j]?).bind (·.dst)with|none=>(simp[hd]at hg)|some d=>simp only[hd]at hg;simp only[Option.bind_some];have hr:=h.slot d;have sj:∀b,a.tmps.getD d undef= .bool b->a.tmps[d]? =some (.bool b):=fun b hb=>by{rw[Ha]at hb;cases hx:a.tmps[d]? with|none=>(rw[hx]at hb;simp[undef]at hb)|some x=>rw[hx]at hb;simpa using hb};split at hg;·{rename_i b hb;rw[hb]at hr;rw[sj b hr.gB.2];simpa using hg};·{rename_i g' b hb;rw[hb]at hr;simp only[AC]at hg;cases g' with|true=>(have:=(hr.Rp.2 rfl).gB.2;rw[sj b this];simpa using hg)|false=>have hu:=hr.Ro;have hnb:∀b,a.tmps[d]? ≠some (.bool b):=fun b hx=>by{rw[Ha,hx]at hu;simp[undef]at hu};have:g=false:=by{simpa using hg.symm};subst this;cases hx:a.tmps[d]? with|none=>(rfl)|some x=>cases x<;>first|rfl|exact absurd hx (hnb _)};·{rename_i x hb;rw[hb]at hr;have hu:=hr.Ro;have hnb:∀b,a.tmps[d]? ≠some (.bool b):=fun b hx=>by{rw[Ha,hx]at hu;simp[undef]at hu};have:g=false:=by{simpa using hg.symm};subst this;cases hx:a.tmps[d]? with|none=>(rfl)|some x=>cases x<;>first|rfl|exact absurd hx (hnb _)};·cases hg
theorem aiv(hN:kI C)(dU:∀k as r,call k as=some r->Sound C k as r)(h:aG C E w S a β F){o:Oper}{e:bh}(he:oF C f call ops S o e)(hd:cC S e)(hn:∀a' w',br C E (S.app e) a' w'->next a' w'):if Region.wanted o (yielded ops a.tmps)then o.wp C.P a w next Q else next (a.put o.dst undef) w:=by cases he with| @yes e0 _ hg hop hrd hwr nB=>(rw[VK h hg,if_pos rfl];rcases nB with rfl|⟨v,hv,q7⟩;·{exact HI hN dU h hop hd hn};·have KL:cC S e0:=by{unfold cC at hd|-;rw[hv];rw[q7]at hd;cases bw:o.dst<;>simp[put,bw]at hd|-;exact hd};refine HI hN dU h hop KL fun a' w' hx=>hn a' w' ?_;obtain⟨β',F',hx⟩:=hx;refine⟨β',F', ?_⟩;cases bw:o.dst with|none=>(have e1:S.app e=S.app e0:=by{simp[ah.app,hv,q7,hwr,put,bw]};rw[e1];exact hx)|some d=>have hs:=hx.slot d;have e2:(S.app e0).t d=v:=by{simp[ah.app,hv,put,bw,cT,aj]};rw[e2]at hs;have:=hx.Vd d (.qY hs);have e1:S.app e=⟨(S.app e0).n,aj (S.app e0).t d (.c8 true v),(S.app e0).h⟩:=by{simp only[ah.app,hv,q7,hwr,put,bw,cT,ah.mk.injEq,true_and,and_true];funext t;simp only[aj];split<;>rfl};rw[e1];exact this)| @no _ x hg hwr hx nB=>rw[VK h hg];simp only[GT,if_false];refine hn _ _ ⟨β,F, ?_⟩;have e1:S.app e=S.app (put o x [] []):=by{simp[ah.app,nB,hwr,put]};rw[e1];have KL:cC S (put o x [] []):=by{unfold cC at hd|-;rw[nB]at hd;exact hd};refine h.val o [] ?_ KL;rcases hx with rfl|⟨y,rfl⟩;·{exact .bf};·exact .qX
theorem amc{P:Program}{o:Oper}{next next':Act->World->Prop}(h:o.wp P a w next Q)(hn:∀a' w' v,a'.tmps=(a.put o.dst v).tmps->next a' w'->next' a' w'):o.wp P a w next' Q:=by unfold Oper.wp at h|-;cases hr:(execOp a.eval o).run P w with|ok x w1=>(rw[hr]at h;cases x with|value v=>(exact hn _ _ v rfl h)|skip=>(exact hn _ _ undef rfl h)|defer d=>(exact hn _ _ undef (by cases o.dst<;>rfl) h)|enter f args=>(simp only[Oper.upon]at h|-;refine h.mono fun e w'' hh=> ?_;cases e with|returned v=>(exact hn _ _ v rfl hh)|_=>exact hh)|row r args=>(exact Rows.mono h fun v w'' hh=>hn _ _ v rfl hh)|_=>exact h)|halt x w1=>rw[hr]at h;cases x<;>exact h
def zj(K:Act->Prop)(ops:Array Oper):Prop:=∀(i:Nat)(o:Oper),ops[i]? =some o->∀a a' v,K a->a'.tmps=(a.put o.dst v).tmps->K a'
theorem MC{K:Act->Prop}(hN:kI C)(dU:∀k as r,call k as=some r->Sound C k as r)(h:aG C E w S a β F){o:Oper}{e:bh}(he:oF C f call ops S o e)(hd:cC S e)(hk:∀a' v,a'.tmps=(a.put o.dst v).tmps->K a')(hn:∀a' w',br C E (S.app e) a' w'->K a'->next a' w'):if Region.wanted o (yielded ops a.tmps)then o.wp C.P a w next Q else next (a.put o.dst undef) w:=by have:=aiv (Q:=Q) (next:=br C E (S.app e)) hN dU h he hd (fun _ _ h=>h);split at this;·{rename_i hw;rw[if_pos hw];exact amc this fun a' w' v e h=>hn _ _ h (hk _ v e)};·rename_i hw;rw[if_neg hw];exact hn _ _ this (hk _ undef rfl)
theorem TQ{K:Act->Prop}(oS:zj K ops)(hN:kI C)(dU:∀k as r,call k as=some r->Sound C k as r):∀(l:List Oper)(i:Nat){S S':ah}{ks:List iV}{a:Act}{w:World},(∀j,l[j]? =ops[i+j]?)->mF C f call ops i l S=some (S',ks)->br C E S a w->K a->(∀a' w',br C E S' a' w'->K a'->Q .normal a' w')->wpOps C.P ops Q (List.range' i l.length) a w|[],i,S,S',ks,a,w,_,h,hS,hK,hq=>by{simp[mF]at h;obtain⟨rfl,_⟩:=h;exact hq _ _ hS hK}|o::l,i,S,S',ks,a,w,hl,h,hS,hK,hq=>by have h0:ops[i]? =some o:=by{simpa using(hl 0).symm};simp only[mF,Do]at h;obtain⟨e,he,h⟩:=h;split at h;·{rename_i hd;obtain⟨⟨bx,k1⟩,h1,h2⟩:=Option.map_eq_some_iff.1 h;simp only[Prod.mk.injEq]at h2;obtain⟨rfl,_⟩:=h2;obtain⟨β,F,hS⟩:=hS;rw[List.length_cons,List.range'_succ,wpOps_cons];unfold wpOp;simp only[h0];have:=MC (Q:=Q) (K:=K) (next:=wpOps C.P ops Q (List.range' (i+1) l.length)) hN dU hS (JK he) hd (fun a' v e=>oS i o h0 a a' v hK e) fun a' w' hx hk=>TQ oS hN dU l (i+1) (fun j=>by have:=hl (j+1);simpa[Nat.add_assoc,Nat.add_comm 1 j]using this) h1 hx hk hq;split at this;·{rename_i hw;simp only[hw,if_true];exact .inl this};·rename_i hw;simp only[hw];exact this};·cases h
end
end Go.Ab
