import Derived.Test.YtbbhbdlljfffdaaGreatDoorAbGr
open Array renaming getD_eq_getD_getElem?→Ha
open Bool renaming false_eq_true→GT
open Option renaming bind_eq_some_iff→Do,map_eq_some_iff→GE
open Option.some renaming injEq→AC
set_option linter.all false
namespace Go.Ab
open Go
section
variable{C:aG}{E:Env}{w:World}{S:ah}{a:Act}{β:Id→Option Loc}{F:Id→List Nat}
variable{next:Act→World→Prop}{Q:Exit→Act→World→Prop}
theorem FN(hN:j6 C){f:FuncId}{call:FuncId→List U→Option (U×List U)}(dW:∀k as r,call k as=some r→Sound C k as r)(h:aN C E w S a β F){o:Oper}{e:bq}(he:bA C f call S true o=some e)(hd:cF S e)(hn:∀a' w',bx C E (S.app e) a' w'→next a' w'):o.wp C.P a w next Q:=by unfold bA at he;split at he;·{rename_i x ho;exact RE h (.inl ho) he hd hn};·{rename_i x ho;exact RE h (.inr ho) he hd hn};·{rename_i c x y ho;exact agl h ho he hd hn};·{rename_i t ho;exact afM h ho he hd hn};·{rename_i t x ho;exact afR h ho he hd hn};·{rename_i t p ho;exact afS h ho he hd hn};·{rename_i t n p ho;exact afU h ho he hd hn};·{rename_i t x ho;exact agd h ho he hd hn};·{rename_i t x y ho;exact agp h ho he hd hn};·{rename_i x ho;exact agk h ho he hd hn};·{rename_i ho;exact afP h ho he hd hn};·{rename_i ho;exact agq h ho he hd hn};·{rename_i ho;exact afZ h ho he hd hn};·{rename_i ho;exact af8 h ho he hd hn};·{rename_i ho;exact agi h ho he hd hn};·{rename_i ho;exact agh h ho he hd hn};·{rename_i t x lo hi mx ho;cases mx with|none=>(exact ok_slice h ho (by simpa using he) hd hn)|some m=>simp at he};·{rename_i ho;exact af5 h ho he hd hn};·{rename_i ho;exact af4 h ho he hd hn};·{rename_i ho;exact aga h ho he hd hn};·{rename_i ho;exact af9 h ho he hd hn};·{rename_i ho;exact af3 h ho he hd hn};·{rename_i ho;exact agj h ho he hd hn};·{rename_i ho;exact agf h ho he hd hn};·{rename_i ho;exact RD h (.inl ho) he hd hn};·{rename_i ho;exact RD h (.inr ho) he hd hn};·{rename_i c ho;split at he;·{rename_i hc;exact agc h ho hc he hd hn};·{rename_i hc;exact afN h ho hc he hd hn};·{rename_i hc;exact af1 h ho hc he hd hn};·{rename_i hc;split at he;·{rename_i vs hv;exact RG h ho hc _ (fun _ _=>rfl) hv he hd hn};·cases he};·{rename_i hc;split at he;·{rename_i vs hv;exact RG h ho hc _ (fun _ _=>rfl) hv he hd hn};·cases he};·{rename_i cQ hc;split at he;·{rename_i x ef;exact afX hN.no h ho hc dW ef he hd hn};·rename_i ef;split at he;·{rename_i p hp;unfold pathOf at hp;split at hp;·{exact agb hN.no h ho hc (hN.path _ _ hp) he hd hn};·cases hp};·split at he;·{split at he;·{rename_i k;refine afY hN.no h ho hc dW ?_ he hd hn;simp only[ah.get,un,mR]at ef;split at ef;·{cases ef};·rename_i hg;simpa using hg};·cases he};·exact afW hN.no hN.look h ho hc dW ef he hd hn};·cases he};·cases he
/-! ### What an operation writes among the slots -/
def Shaped(C:aG)(f:FuncId)(o:Oper)(e:bq):Prop:=(∃v,e.dz=(put o v [] []).dz)∨(e.wr≠[]∧∀x∈e.dz,x.1∈ql C f o)
theorem cV{C:aG}{f:FuncId}{o:Oper}{v:U}{rd:List Id}{wr:List (Id×Option Rows)}:Shaped C f o (put o v rd wr):= .inl ⟨v,rfl⟩
theorem fK{C:aG}{f:FuncId}{o:Oper}{v:U}{e:bq}(h:ret o v=some e):Shaped C f o e:=by have:=gI h;subst this;exact cV
theorem gz{C:aG}{f:FuncId}{o:Oper}{v:Option Value}{e:bq}(h:lB o v=some e):Shaped C f o e:=by unfold lB at h;split at h;·{split at h;·{exact fK h};·cases h};·cases h
theorem aio{C:aG}{f:FuncId}{o:Oper}{e1 e:bq}(h:pP C f o e1=some e)(h1:Shaped C f o e1):Shaped C f o e:=by unfold pP at h;split at h;·{split at h;·{split at h;·{simp only[AC]at h;subst h;exact cV};·cases h};·{split at h;·{simp only[AC]at h;subst h;exact cV};·cases h};·cases h};·simp only[AC]at h;subst h;exact h1
theorem aip{C:aG}{f:FuncId}{call:FuncId→List U→Option (U×List U)}{S:ah}{o:Oper}{e:bq}{k:FuncId}{args:List U}(he:qJ C f call S o k args=some e):Shaped C f o e:=by unfold qJ at he;split at he;·{split at he;·{generalize(if eJ C f o.dst=true then _ else _)=r' at he;split at he;·{split at he;·{simp only[AC]at he;subst he;exact cV};·cases he};·cases he};·cases he};·cases he
theorem LH{C:aG}{f:FuncId}{call:FuncId→List U→Option (U×List U)}{S:ah}{g:Bool}{o:Oper}{e:bq}(he:bA C f call S g o=some e):Shaped C f o e:=by
 unfold bA at he
 split at he
 ·exact fK he
 ·exact fK he
 ·unfold tI at he
  repeat'(first
   |with_reducible exact fK he
   |with_reducible exact gz he
   |(simp only[reduceCtorEq]at he;done)
   |(simp only[AC]at he;subst he;exact cV)
   |(simp only[Do]at he;obtain⟨_,_,he⟩:=he)
   |(simp only[GE]at he;obtain⟨_,_,he⟩:=he;subst he;exact cV)
   |split at he)
 ·unfold r3 at he
  repeat'(first
   |with_reducible exact fK he
   |with_reducible exact gz he
   |(simp only[reduceCtorEq]at he;done)
   |(simp only[AC]at he;subst he;exact cV)
   |(simp only[Do]at he;obtain⟨_,_,he⟩:=he)
   |(simp only[GE]at he;obtain⟨_,_,he⟩:=he;subst he;exact cV)
   |split at he)
 ·unfold pK at he
  repeat'(first
   |with_reducible exact fK he
   |with_reducible exact gz he
   |(simp only[reduceCtorEq]at he;done)
   |(simp only[AC]at he;subst he;exact cV)
   |(simp only[Do]at he;obtain⟨_,_,he⟩:=he)
   |(simp only[GE]at he;obtain⟨_,_,he⟩:=he;subst he;exact cV)
   |split at he)
 ·unfold tC at he
  repeat'(first
   |with_reducible exact fK he
   |with_reducible exact gz he
   |(simp only[reduceCtorEq]at he;done)
   |(simp only[AC]at he;subst he;exact cV)
   |(simp only[Do]at he;obtain⟨_,_,he⟩:=he)
   |(simp only[GE]at he;obtain⟨_,_,he⟩:=he;subst he;exact cV)
   |split at he)
 ·unfold pL AY r5 at he
  repeat'(first
   |with_reducible exact fK he
   |with_reducible exact gz he
   |(simp only[reduceCtorEq]at he;done)
   |(simp only[AC]at he;subst he;exact cV)
   |(simp only[Do]at he;obtain⟨_,_,he⟩:=he)
   |(simp only[GE]at he;obtain⟨_,_,he⟩:=he;subst he;exact cV)
   |split at he)
 ·unfold kY at he
  repeat'(first
   |with_reducible exact fK he
   |with_reducible exact gz he
   |(simp only[reduceCtorEq]at he;done)
   |(simp only[AC]at he;subst he;exact cV)
   |(simp only[Do]at he;obtain⟨_,_,he⟩:=he)
   |(simp only[GE]at he;obtain⟨_,_,he⟩:=he;subst he;exact cV)
   |split at he)
 ·rename_i t ao x ho
  unfold nE at he
  split at he
  ·split at he
   ·split at he
    ·cases he
    ·split at he
     ·obtain⟨r,_,he⟩:=Option.bind_eq_some_iff.1 he
      split at he
      ·split at he
       ·rename_i ta sA
        split at he
        ·rename_i hc
         simp only[Bool.and_eq_true,Option.isNone_iff_eq_none]at hc
         simp only[AC]at he;subst he
         refine .inr ⟨by simp,fun y hy=> ?_⟩
         obtain rfl:=List.mem_singleton.1 hy
         unfold ql
         simp[ho,sA]
        ·cases he
       ·split at he
        ·simp only[AC]at he;subst he;exact cV
        ·cases he
      ·cases he
     ·cases he
   ·cases he
  ·cases he
 ·unfold A1 at he
  repeat'(first
   |with_reducible exact fK he
   |with_reducible exact gz he
   |(simp only[reduceCtorEq]at he;done)
   |(simp only[AC]at he;subst he;exact cV)
   |(simp only[Do]at he;obtain⟨_,_,he⟩:=he)
   |(simp only[GE]at he;obtain⟨_,_,he⟩:=he;subst he;exact cV)
   |split at he)
 ·unfold r4 at he
  repeat'(first
   |with_reducible exact fK he
   |with_reducible exact gz he
   |(simp only[reduceCtorEq]at he;done)
   |(simp only[AC]at he;subst he;exact cV)
   |(simp only[Do]at he;obtain⟨_,_,he⟩:=he)
   |(simp only[GE]at he;obtain⟨_,_,he⟩:=he;subst he;exact cV)
   |split at he)
 ·unfold vH at he
  repeat'(first
   |with_reducible exact fK he
   |with_reducible exact gz he
   |(simp only[reduceCtorEq]at he;done)
   |(simp only[AC]at he;subst he;exact cV)
   |(simp only[Do]at he;obtain⟨_,_,he⟩:=he)
   |(simp only[GE]at he;obtain⟨_,_,he⟩:=he;subst he;exact cV)
   |split at he)
 ·unfold r6 Eo AZ at he
  repeat'(first
   |with_reducible exact fK he
   |with_reducible exact gz he
   |(simp only[reduceCtorEq]at he;done)
   |(simp only[AC]at he;subst he;exact cV)
   |(simp only[Do]at he;obtain⟨_,_,he⟩:=he)
   |(simp only[GE]at he;obtain⟨_,_,he⟩:=he;subst he;exact cV)
   |split at he)
 ·unfold tF at he
  repeat'(first
   |with_reducible exact fK he
   |with_reducible exact gz he
   |(simp only[reduceCtorEq]at he;done)
   |(simp only[AC]at he;subst he;exact cV)
   |(simp only[Do]at he;obtain⟨_,_,he⟩:=he)
   |(simp only[GE]at he;obtain⟨_,_,he⟩:=he;subst he;exact cV)
   |split at he)
 ·exact fK he
 ·unfold r7 at he
  repeat'(first
   |with_reducible exact fK he
   |with_reducible exact gz he
   |(simp only[reduceCtorEq]at he;done)
   |(simp only[AC]at he;subst he;exact cV)
   |(simp only[Do]at he;obtain⟨_,_,he⟩:=he)
   |(simp only[GE]at he;obtain⟨_,_,he⟩:=he;subst he;exact cV)
   |split at he)
 ·split at he
  ·cases he
  ·unfold nD at he
   repeat'(first
    |with_reducible exact fK he
    |with_reducible exact gz he
    |(simp only[reduceCtorEq]at he;done)
    |(simp only[AC]at he;subst he;exact cV)
    |(simp only[Do]at he;obtain⟨_,_,he⟩:=he)
    |(simp only[GE]at he;obtain⟨_,_,he⟩:=he;subst he;exact cV)
    |split at he)
 ·unfold tD at he
  repeat'(first
   |with_reducible exact fK he
   |with_reducible exact gz he
   |(simp only[reduceCtorEq]at he;done)
   |(simp only[AC]at he;subst he;exact cV)
   |(simp only[Do]at he;obtain⟨_,_,he⟩:=he)
   |(simp only[GE]at he;obtain⟨_,_,he⟩:=he;subst he;exact cV)
   |split at he)
 ·unfold yq at he
  repeat'(first
   |with_reducible exact fK he
   |with_reducible exact gz he
   |(simp only[reduceCtorEq]at he;done)
   |(simp only[AC]at he;subst he;exact cV)
   |(simp only[Do]at he;obtain⟨_,_,he⟩:=he)
   |(simp only[GE]at he;obtain⟨_,_,he⟩:=he;subst he;exact cV)
   |split at he)
 ·unfold mc at he
  repeat'(first
   |with_reducible exact fK he
   |with_reducible exact gz he
   |(simp only[reduceCtorEq]at he;done)
   |(simp only[AC]at he;subst he;exact cV)
   |(simp only[Do]at he;obtain⟨_,_,he⟩:=he)
   |(simp only[GE]at he;obtain⟨_,_,he⟩:=he;subst he;exact cV)
   |split at he)
 ·unfold tG at he
  repeat'(first
   |with_reducible exact fK he
   |with_reducible exact gz he
   |(simp only[reduceCtorEq]at he;done)
   |(simp only[AC]at he;subst he;exact cV)
   |(simp only[Do]at he;obtain⟨_,_,he⟩:=he)
   |(simp only[GE]at he;obtain⟨_,_,he⟩:=he;subst he;exact cV)
   |split at he)
 ·unfold yp at he
  repeat'(first
   |with_reducible exact fK he
   |with_reducible exact gz he
   |(simp only[reduceCtorEq]at he;done)
   |(simp only[AC]at he;subst he;exact cV)
   |(simp only[Do]at he;obtain⟨_,_,he⟩:=he)
   |(simp only[GE]at he;obtain⟨_,_,he⟩:=he;subst he;exact cV)
   |split at he)
 ·unfold r8 at he
  repeat'(first
   |with_reducible exact fK he
   |with_reducible exact gz he
   |(simp only[reduceCtorEq]at he;done)
   |(simp only[AC]at he;subst he;exact cV)
   |(simp only[Do]at he;obtain⟨_,_,he⟩:=he)
   |(simp only[GE]at he;obtain⟨_,_,he⟩:=he;subst he;exact cV)
   |split at he)
 ·unfold pM at he
  repeat'(first
   |with_reducible exact fK he
   |with_reducible exact gz he
   |(simp only[reduceCtorEq]at he;done)
   |(simp only[AC]at he;subst he;exact cV)
   |(simp only[Do]at he;obtain⟨_,_,he⟩:=he)
   |(simp only[GE]at he;obtain⟨_,_,he⟩:=he;subst he;exact cV)
   |split at he)
 ·unfold pN at he
  repeat'(first
   |with_reducible exact fK he
   |with_reducible exact gz he
   |(simp only[reduceCtorEq]at he;done)
   |(simp only[AC]at he;subst he;exact cV)
   |(simp only[Do]at he;obtain⟨_,_,he⟩:=he)
   |(simp only[GE]at he;obtain⟨_,_,he⟩:=he;subst he;exact cV)
   |split at he)
 ·unfold pN at he
  repeat'(first
   |with_reducible exact fK he
   |with_reducible exact gz he
   |(simp only[reduceCtorEq]at he;done)
   |(simp only[AC]at he;subst he;exact cV)
   |(simp only[Do]at he;obtain⟨_,_,he⟩:=he)
   |(simp only[GE]at he;obtain⟨_,_,he⟩:=he;subst he;exact cV)
   |split at he)
 ·rename_i c ho
  split at he
  ·unfold qO at he
   repeat'(first
    |with_reducible exact fK he
    |with_reducible exact gz he
    |(simp only[reduceCtorEq]at he;done)
    |(simp only[AC]at he;subst he;exact cV)
    |(simp only[Do]at he;obtain⟨_,_,he⟩:=he)
    |(simp only[GE]at he;obtain⟨_,_,he⟩:=he;subst he;exact cV)
    |split at he)
  ·simp only[Do]at he
   obtain⟨e1,yH,tS⟩:=he
   refine aio tS ?_
   clear tS
   have he:=yH
   clear yH
   unfold lH xZ x4 l8 at he
   repeat'(first
    |with_reducible exact fK he
    |with_reducible exact gz he
    |(simp only[reduceCtorEq]at he;done)
    |(simp only[AC]at he;subst he;exact cV)
    |(simp only[Do]at he;obtain⟨_,_,he⟩:=he)
    |(simp only[GE]at he;obtain⟨_,_,he⟩:=he;subst he;exact cV)
    |split at he)
  ·unfold vG at he
   repeat'(first
    |with_reducible exact fK he
    |with_reducible exact gz he
    |(simp only[reduceCtorEq]at he;done)
    |(simp only[AC]at he;subst he;exact cV)
    |(simp only[Do]at he;obtain⟨_,_,he⟩:=he)
    |(simp only[GE]at he;obtain⟨_,_,he⟩:=he;subst he;exact cV)
    |split at he)
  ·repeat'(first
    |with_reducible exact fK he
    |with_reducible exact gz he
    |(simp only[reduceCtorEq]at he;done)
    |(simp only[AC]at he;subst he;exact cV)
    |(simp only[Do]at he;obtain⟨_,_,he⟩:=he)
    |(simp only[GE]at he;obtain⟨_,_,he⟩:=he;subst he;exact cV)
    |split at he)
  ·repeat'(first
    |with_reducible exact fK he
    |with_reducible exact gz he
    |(simp only[reduceCtorEq]at he;done)
    |(simp only[AC]at he;subst he;exact cV)
    |(simp only[Do]at he;obtain⟨_,_,he⟩:=he)
    |(simp only[GE]at he;obtain⟨_,_,he⟩:=he;subst he;exact cV)
    |split at he)
  ·rename_i cQ hc
   split at he
   ·unfold pG at he
    simp only[Do]at he
    obtain⟨x,_,he⟩:=he
    split at he
    ·cases he
    ·generalize(if eJ C f o.dst=true then(if flat x.r=true then dG x.r else .br)else x.r)=rr at he
     split at he
     ·simp only[AC]at he;subst he;exact cV
     ·cases he
   split at he
   ·unfold tH at he
    repeat'(first
     |with_reducible exact fK he
     |with_reducible exact gz he
     |(simp only[reduceCtorEq]at he;done)
     |(simp only[AC]at he;subst he;exact cV)
     |(simp only[Do]at he;obtain⟨_,_,he⟩:=he)
     |(simp only[GE]at he;obtain⟨_,_,he⟩:=he;subst he;exact cV)
     |split at he)
   ·split at he
    ·split at he
     ·exact aip he
     ·cases he
    ·unfold qI at he
     split at he
     ·split at he
      ·unfold wT at he
       repeat'(first
        |(simp only[reduceCtorEq]at he;done)
        |(simp only[AC]at he;subst he;exact cV)
        |split at he)
      split at he
      ·split at he
       ·generalize(if eJ C f o.dst=true then _ else _)=r' at he
        split at he
        ·cases he
        ·split at he
         ·simp only[AC]at he;subst he;exact cV
         ·cases he
       ·cases he
      ·cases he
     ·cases he
  ·cases he
 ·cases he
end
end Go.Ab
namespace Go.Ab
open Go
inductive nv(C:aG)(f:FuncId)(call:FuncId→List U→Option (U×List U))(ops:Array Oper)(S:ah)(o:Oper):bq→Prop|yes{e e':bq}:qS S ops o=some true→bA C f call S true o=some e→e'.rd=e.rd→e'.wr=e.wr→(e'=e∨∃v,e.dz=(put o v [] []).dz∧e'.dz=(put o (.c8 true v) [] []).dz)→nv C f call ops S o e'|no{e':bq}{x:U}:qS S ops o=some false→e'.wr=[]→(x= .br∨∃y,x= .c8 false y)→e'.dz=(put o x [] []).dz→nv C f call ops S o e'
section
variable{C:aG}{E:Env}{w:World}{S:ah}{a:Act}{β:Id→Option Loc}{F:Id→List Nat}
variable{next:Act→World→Prop}{Q:Exit→Act→World→Prop}
variable{f:FuncId}{call:FuncId→List U→Option (U×List U)}{ops:Array Oper}
theorem R.Pq{I:Nat→Prop}{g:List Nat}{v:Value}{x:U}(h:R w I β g v (.c8 false x)):v=undef:=by cases h;rfl
theorem HT{o:Oper}{e:bq}(h:tE C f call S ops o=some e):nv C f call ops S o e:=by unfold tE at h;split at h;·{cases h};·rename_i g hg;split at h;·{rename_i hn;have:g=true:=by{simpa[qS,hn]using hg.symm};subst this;exact .yes hg h rfl rfl (.inl rfl)};·split at h;·{rename_i e0 Bx;split at h;·{rename_i hw;simp only[AC]at h;subst h;rcases LH Bx with⟨v,hv⟩|⟨hne,_⟩;·{cases g with|true=>(refine .yes hg Bx rfl rfl (.inr ⟨v,hv, ?_⟩);simp only[hv,put];cases o.dst<;>rfl)|false=>refine .no (x:= .c8 false v) hg (by simpa using hw) (.inr ⟨v,rfl⟩) ?_;simp only[hv,put];cases o.dst<;>rfl};·exact absurd (by simpa using hw) hne};·cases g with|true=>(simp only[if_true,AC]at h;subst h;exact .yes hg Bx rfl rfl (.inl rfl))|false=>simp only[GT,if_false,AC]at h;subst h;exact .no hg rfl (.inr ⟨_,rfl⟩) rfl};·cases g with|true=>(simp at h)|false=>simp only[GT,if_false,AC]at h;subst h;exact .no hg rfl (.inr ⟨_,rfl⟩) rfl
theorem Tv(h:aN C E w S a β F){o:Oper}{g:Bool}(hg:qS S ops o=some g):Region.wanted o (yielded ops a.tmps)=g:=by unfold qS at hg;unfold Region.wanted;cases hgd:o.guard with|none=>(simp[hgd]at hg;simp[hg])|some JY=>obtain⟨j,want⟩:=JY;simp only[hgd]at hg⊢;unfold yielded;cases hd:(ops[j]?).bind (·.dst)with|none=>(simp[hd]at hg)|some d=>simp only[hd]at hg;simp only[Option.bind_some];have hr:=h.slot d;have qX:∀b,a.tmps.getD d undef= .bool b→a.tmps[d]? =some (.bool b):=fun b hb=>by{rw[Ha]at hb;cases hx:a.tmps[d]? with|none=>(rw[hx]at hb;simp[undef]at hb)|some x=>rw[hx]at hb;simpa using hb};split at hg;·{rename_i b hb;rw[hb]at hr;rw[qX b hr.gd.2];simpa using hg};·{rename_i g' b hb;rw[hb]at hr;simp only[AC]at hg;cases g' with|true=>(have:=(hr.Pr.2 rfl).gd.2;rw[qX b this];simpa using hg)|false=>have hu:=hr.Pq;have hnb:∀b,a.tmps[d]? ≠some (.bool b):=fun b hx=>by{rw[Ha,hx]at hu;simp[undef]at hu};have:g=false:=by{simpa using hg.symm};subst this;cases hx:a.tmps[d]? with|none=>(rfl)|some x=>cases x<;>first|rfl|exact absurd hx (hnb _)};·{rename_i x hb;rw[hb]at hr;have hu:=hr.Pq;have hnb:∀b,a.tmps[d]? ≠some (.bool b):=fun b hx=>by{rw[Ha,hx]at hu;simp[undef]at hu};have:g=false:=by{simpa using hg.symm};subst this;cases hx:a.tmps[d]? with|none=>(rfl)|some x=>cases x<;>first|rfl|exact absurd hx (hnb _)};·cases hg
theorem af2(hN:j6 C)(dW:∀k as r,call k as=some r→Sound C k as r)(h:aN C E w S a β F){o:Oper}{e:bq}(he:nv C f call ops S o e)(hd:cF S e)(hn:∀a' w',bx C E (S.app e) a' w'→next a' w'):if Region.wanted o (yielded ops a.tmps)then o.wp C.P a w next Q else next (a.put o.dst undef) w:=by cases he with| @yes e0 _ hg hop hrd hwr oN=>(rw[Tv h hg,if_pos rfl];rcases oN with rfl|⟨v,hv,yY⟩;·{exact FN hN dW h hop hd hn};·have I4:cF S e0:=by{unfold cF at hd⊢;rw[hv];rw[yY]at hd;cases bz:o.dst<;>simp[put,bz]at hd⊢;exact hd};refine FN hN dW h hop I4 fun a' w' hx=>hn a' w' ?_;obtain⟨β',F',hx⟩:=hx;refine⟨β',F', ?_⟩;cases bz:o.dst with|none=>(have e1:S.app e=S.app e0:=by{simp[ah.app,hv,yY,hwr,put,bz]};rw[e1];exact hx)|some d=>have hs:=hx.slot d;have e2:(S.app e0).t d=v:=by{simp[ah.app,hv,put,bz,cW,ak]};rw[e2]at hs;have:=hx.S5 d (.pS hs);have e1:S.app e=⟨(S.app e0).n,ak (S.app e0).t d (.c8 true v),(S.app e0).h⟩:=by{simp only[ah.app,hv,yY,hwr,put,bz,cW,ah.mk.injEq,true_and,and_true];funext t;simp only[ak];split<;>rfl};rw[e1];exact this)| @no _ x hg hwr hx oN=>rw[Tv h hg];simp only[GT,if_false];refine hn _ _ ⟨β,F, ?_⟩;have e1:S.app e=S.app (put o x [] []):=by{simp[ah.app,oN,hwr,put]};rw[e1];have I4:cF S (put o x [] []):=by{unfold cF at hd⊢;rw[oN]at hd;exact hd};refine h.val o [] ?_ I4;rcases hx with rfl|⟨y,rfl⟩;·{exact .br};·exact .pR
theorem ajk{P:Program}{o:Oper}{next next':Act→World→Prop}(h:o.wp P a w next Q)(hn:∀a' w' v,a'.tmps=(a.put o.dst v).tmps→next a' w'→next' a' w'):o.wp P a w next' Q:=by unfold Oper.wp at h⊢;cases hr:(execOp a.eval o).run P w with|ok x w1=>(rw[hr]at h;cases x with|value v=>(exact hn _ _ v rfl h)|skip=>(exact hn _ _ undef rfl h)|defer d=>(exact hn _ _ undef (by cases o.dst<;>rfl) h)|enter f args=>(simp only[Oper.upon]at h⊢;refine h.mono fun e w'' hh=> ?_;cases e with|returned v=>(exact hn _ _ v rfl hh)|_=>exact hh)|row r args=>(exact Rows.mono h fun v w'' hh=>hn _ _ v rfl hh)|_=>exact h)|halt x w1=>rw[hr]at h;cases x<;>exact h
def xM(K:Act→Prop)(ops:Array Oper):Prop:=∀(i:Nat)(o:Oper),ops[i]? =some o→∀a a' v,K a→a'.tmps=(a.put o.dst v).tmps→K a'
theorem KD{K:Act→Prop}(hN:j6 C)(dW:∀k as r,call k as=some r→Sound C k as r)(h:aN C E w S a β F){o:Oper}{e:bq}(he:nv C f call ops S o e)(hd:cF S e)(hk:∀a' v,a'.tmps=(a.put o.dst v).tmps→K a')(hn:∀a' w',bx C E (S.app e) a' w'→K a'→next a' w'):if Region.wanted o (yielded ops a.tmps)then o.wp C.P a w next Q else next (a.put o.dst undef) w:=by have:=af2 (Q:=Q) (next:=bx C E (S.app e)) hN dW h he hd (fun _ _ h=>h);split at this;·{rename_i hw;rw[if_pos hw];exact ajk this fun a' w' v e h=>hn _ _ h (hk _ v e)};·rename_i hw;rw[if_neg hw];exact hn _ _ this (hk _ undef rfl)
theorem RF{K:Act→Prop}(nL:xM K ops)(hN:j6 C)(dW:∀k as r,call k as=some r→Sound C k as r):∀(l:List Oper)(i:Nat){S S':ah}{ks:List iB}{a:Act}{w:World},(∀j,l[j]? =ops[i+j]?)→lI C f call ops i l S=some (S',ks)→bx C E S a w→K a→(∀a' w',bx C E S' a' w'→K a'→Q .normal a' w')→wpOps C.P ops Q (List.range' i l.length) a w|[],i,S,S',ks,a,w,_,h,hS,hK,hq=>by{simp[lI]at h;obtain⟨rfl,_⟩:=h;exact hq _ _ hS hK}|o::l,i,S,S',ks,a,w,hl,h,hS,hK,hq=>by have h0:ops[i]? =some o:=by{simpa using(hl 0).symm};simp only[lI,Do]at h;obtain⟨e,he,h⟩:=h;split at h;·{rename_i hd;obtain⟨⟨bD,k1⟩,h1,h2⟩:=Option.map_eq_some_iff.1 h;simp only[Prod.mk.injEq]at h2;obtain⟨rfl,_⟩:=h2;obtain⟨β,F,hS⟩:=hS;rw[List.length_cons,List.range'_succ,wpOps_cons];unfold wpOp;simp only[h0];have:=KD (Q:=Q) (K:=K) (next:=wpOps C.P ops Q (List.range' (i+1) l.length)) hN dW hS (HT he) hd (fun a' v e=>nL i o h0 a a' v hK e) fun a' w' hx hk=>RF nL hN dW l (i+1) (fun j=>by have:=hl (j+1);simpa[Nat.add_assoc,Nat.add_comm 1 j]using this) h1 hx hk hq;split at this;·{rename_i hw;simp only[hw,if_true];exact .inl this};·rename_i hw;simp only[hw];exact this};·cases h
end
end Go.Ab
