import Derived.Test.YtbbhbdlljfffdaaGreatDoorAbGr
open Array renaming getD_eq_getD_getElem?→Ha
open Bool renaming false_eq_true→GT
open Option renaming bind_eq_some_iff→Do,map_eq_some_iff→GE
open Option.some renaming injEq→AC
set_option linter.all false
namespace Go.Ab
open Go
section
variable{C:aF}{E:Env}{w:World}{S:ah}{a:Act}{β:Id→Option Loc}{F:Id→List Nat}
variable{next:Act→World→Prop}{Q:Exit→Act→World→Prop}
theorem FV(hN:kn C){f:FuncId}{call:FuncId→List U→Option (U×List U)}(dV:∀k as r,call k as=some r→Sound C k as r)(h:aL C E w S a β F){o:Oper}{e:bn}(he:bC C f call S true o=some e)(hd:cA S e)(hn:∀a' w',bu C E (S.app e) a' w'→next a' w'):o.wp C.P a w next Q:=by unfold bC at he;split at he;·{rename_i x ho;exact RO h (.inl ho) he hd hn};·{rename_i x ho;exact RO h (.inr ho) he hd hn};·{rename_i c x y ho;exact agt h ho he hd hn};·{rename_i t ho;exact afU h ho he hd hn};·{rename_i t x ho;exact afZ h ho he hd hn};·{rename_i t p ho;exact af0 h ho he hd hn};·{rename_i t n p ho;exact af2 h ho he hd hn};·{rename_i t x ho;exact agm h ho he hd hn};·{rename_i t x y ho;exact agx h ho he hd hn};·{rename_i x ho;exact ags h ho he hd hn};·{rename_i ho;exact afX h ho he hd hn};·{rename_i ho;exact agy h ho he hd hn};·{rename_i ho;exact af7 h ho he hd hn};·{rename_i ho;exact agh h ho he hd hn};·{rename_i ho;exact agq h ho he hd hn};·{rename_i ho;exact agp h ho he hd hn};·{rename_i t x lo hi mx ho;cases mx with|none=>(exact ok_slice h ho (by simpa using he) hd hn)|some m=>simp at he};·{rename_i ho;exact agd h ho he hd hn};·{rename_i ho;exact agc h ho he hd hn};·{rename_i ho;exact agj h ho he hd hn};·{rename_i ho;exact agi h ho he hd hn};·{rename_i ho;exact agb h ho he hd hn};·{rename_i ho;exact agr h ho he hd hn};·{rename_i ho;exact ago h ho he hd hn};·{rename_i ho;exact RN h (.inl ho) he hd hn};·{rename_i ho;exact RN h (.inr ho) he hd hn};·{rename_i c ho;split at he;·{rename_i hc;exact agl h ho hc he hd hn};·{rename_i hc;exact afV h ho hc he hd hn};·{rename_i hc;exact af9 h ho hc he hd hn};·{rename_i hc;split at he;·{rename_i vs hv;exact RQ h ho hc _ (fun _ _=>rfl) hv he hd hn};·cases he};·{rename_i hc;split at he;·{rename_i vs hv;exact RQ h ho hc _ (fun _ _=>rfl) hv he hd hn};·cases he};·{rename_i cN hc;split at he;·{rename_i x dY;exact af5 hN.no h ho hc dV dY he hd hn};·rename_i dY;split at he;·{rename_i p hp;unfold pathOf at hp;split at hp;·{exact agk hN.no h ho hc (hN.path _ _ hp) he hd hn};·cases hp};·split at he;·{split at he;·{rename_i k;refine af6 hN.no h ho hc dV ?_ he hd hn;simp only[ah.get,un,nq]at dY;split at dY;·{cases dY};·rename_i hg;simpa using hg};·cases he};·exact af4 hN.no hN.look h ho hc dV dY he hd hn};·cases he};·cases he
/-! ### What an operation writes among the slots -/
def Shaped(C:aF)(f:FuncId)(o:Oper)(e:bn):Prop:=(∃v,e.dA=(put o v [] []).dA)∨(e.wr≠[]∧∀x∈e.dA,x.1∈qC C f o)
theorem cS{C:aF}{f:FuncId}{o:Oper}{v:U}{rd:List Id}{wr:List (Id×Option Rows)}:Shaped C f o (put o v rd wr):= .inl ⟨v,rfl⟩
theorem fM{C:aF}{f:FuncId}{o:Oper}{v:U}{e:bn}(h:ret o v=some e):Shaped C f o e:=by have:=gP h;subst this;exact cS
theorem gI{C:aF}{f:FuncId}{o:Oper}{v:Option Value}{e:bn}(h:lQ o v=some e):Shaped C f o e:=by unfold lQ at h;split at h;·{split at h;·{exact fM h};·cases h};·cases h
theorem aiv{C:aF}{f:FuncId}{o:Oper}{e1 e:bn}(h:qb C f o e1=some e)(h1:Shaped C f o e1):Shaped C f o e:=by unfold qb at h;split at h;·{split at h;·{split at h;·{simp only[AC]at h;subst h;exact cS};·cases h};·{split at h;·{simp only[AC]at h;subst h;exact cS};·cases h};·cases h};·simp only[AC]at h;subst h;exact h1
theorem aiw{C:aF}{f:FuncId}{call:FuncId→List U→Option (U×List U)}{S:ah}{o:Oper}{e:bn}{k:FuncId}{args:List U}(he:qY C f call S o k args=some e):Shaped C f o e:=by unfold qY at he;split at he;·{split at he;·{generalize(if eK C f o.dst=true then _ else _)=r' at he;split at he;·{split at he;·{simp only[AC]at he;subst he;exact cS};·cases he};·cases he};·cases he};·cases he
theorem LM{C:aF}{f:FuncId}{call:FuncId→List U→Option (U×List U)}{S:ah}{g:Bool}{o:Oper}{e:bn}(he:bC C f call S g o=some e):Shaped C f o e:=by
 unfold bC at he
 split at he
 ·exact fM he
 ·exact fM he
 ·unfold tY at he
  repeat'(first
   |with_reducible exact fM he
   |with_reducible exact gI he
   |(simp only[reduceCtorEq]at he;done)
   |(simp only[AC]at he;subst he;exact cS)
   |(simp only[Do]at he;obtain⟨_,_,he⟩:=he)
   |(simp only[GE]at he;obtain⟨_,_,he⟩:=he;subst he;exact cS)
   |split at he)
 ·unfold sy at he
  repeat'(first
   |with_reducible exact fM he
   |with_reducible exact gI he
   |(simp only[reduceCtorEq]at he;done)
   |(simp only[AC]at he;subst he;exact cS)
   |(simp only[Do]at he;obtain⟨_,_,he⟩:=he)
   |(simp only[GE]at he;obtain⟨_,_,he⟩:=he;subst he;exact cS)
   |split at he)
 ·unfold p6 at he
  repeat'(first
   |with_reducible exact fM he
   |with_reducible exact gI he
   |(simp only[reduceCtorEq]at he;done)
   |(simp only[AC]at he;subst he;exact cS)
   |(simp only[Do]at he;obtain⟨_,_,he⟩:=he)
   |(simp only[GE]at he;obtain⟨_,_,he⟩:=he;subst he;exact cS)
   |split at he)
 ·unfold tS at he
  repeat'(first
   |with_reducible exact fM he
   |with_reducible exact gI he
   |(simp only[reduceCtorEq]at he;done)
   |(simp only[AC]at he;subst he;exact cS)
   |(simp only[Do]at he;obtain⟨_,_,he⟩:=he)
   |(simp only[GE]at he;obtain⟨_,_,he⟩:=he;subst he;exact cS)
   |split at he)
 ·unfold p7 Bd sB at he
  repeat'(first
   |with_reducible exact fM he
   |with_reducible exact gI he
   |(simp only[reduceCtorEq]at he;done)
   |(simp only[AC]at he;subst he;exact cS)
   |(simp only[Do]at he;obtain⟨_,_,he⟩:=he)
   |(simp only[GE]at he;obtain⟨_,_,he⟩:=he;subst he;exact cS)
   |split at he)
 ·unfold lB at he
  repeat'(first
   |with_reducible exact fM he
   |with_reducible exact gI he
   |(simp only[reduceCtorEq]at he;done)
   |(simp only[AC]at he;subst he;exact cS)
   |(simp only[Do]at he;obtain⟨_,_,he⟩:=he)
   |(simp only[GE]at he;obtain⟨_,_,he⟩:=he;subst he;exact cS)
   |split at he)
 ·rename_i t ao x ho
  unfold nR at he
  split at he
  ·split at he
   ·split at he
    ·cases he
    ·split at he
     ·obtain⟨r,_,he⟩:=Option.bind_eq_some_iff.1 he
      split at he
      ·split at he
       ·rename_i ta sV
        split at he
        ·rename_i hc
         simp only[Bool.and_eq_true,Option.isNone_iff_eq_none]at hc
         simp only[AC]at he;subst he
         refine .inr ⟨by simp,fun y hy=> ?_⟩
         obtain rfl:=List.mem_singleton.1 hy
         unfold qC
         simp[ho,sV]
        ·cases he
       ·split at he
        ·simp only[AC]at he;subst he;exact cS
        ·cases he
      ·cases he
     ·cases he
   ·cases he
  ·cases he
 ·unfold Bg at he
  repeat'(first
   |with_reducible exact fM he
   |with_reducible exact gI he
   |(simp only[reduceCtorEq]at he;done)
   |(simp only[AC]at he;subst he;exact cS)
   |(simp only[Do]at he;obtain⟨_,_,he⟩:=he)
   |(simp only[GE]at he;obtain⟨_,_,he⟩:=he;subst he;exact cS)
   |split at he)
 ·unfold sA at he
  repeat'(first
   |with_reducible exact fM he
   |with_reducible exact gI he
   |(simp only[reduceCtorEq]at he;done)
   |(simp only[AC]at he;subst he;exact cS)
   |(simp only[Do]at he;obtain⟨_,_,he⟩:=he)
   |(simp only[GE]at he;obtain⟨_,_,he⟩:=he;subst he;exact cS)
   |split at he)
 ·unfold we at he
  repeat'(first
   |with_reducible exact fM he
   |with_reducible exact gI he
   |(simp only[reduceCtorEq]at he;done)
   |(simp only[AC]at he;subst he;exact cS)
   |(simp only[Do]at he;obtain⟨_,_,he⟩:=he)
   |(simp only[GE]at he;obtain⟨_,_,he⟩:=he;subst he;exact cS)
   |split at he)
 ·unfold sC Ev Be at he
  repeat'(first
   |with_reducible exact fM he
   |with_reducible exact gI he
   |(simp only[reduceCtorEq]at he;done)
   |(simp only[AC]at he;subst he;exact cS)
   |(simp only[Do]at he;obtain⟨_,_,he⟩:=he)
   |(simp only[GE]at he;obtain⟨_,_,he⟩:=he;subst he;exact cS)
   |split at he)
 ·unfold tV at he
  repeat'(first
   |with_reducible exact fM he
   |with_reducible exact gI he
   |(simp only[reduceCtorEq]at he;done)
   |(simp only[AC]at he;subst he;exact cS)
   |(simp only[Do]at he;obtain⟨_,_,he⟩:=he)
   |(simp only[GE]at he;obtain⟨_,_,he⟩:=he;subst he;exact cS)
   |split at he)
 ·exact fM he
 ·unfold sD at he
  repeat'(first
   |with_reducible exact fM he
   |with_reducible exact gI he
   |(simp only[reduceCtorEq]at he;done)
   |(simp only[AC]at he;subst he;exact cS)
   |(simp only[Do]at he;obtain⟨_,_,he⟩:=he)
   |(simp only[GE]at he;obtain⟨_,_,he⟩:=he;subst he;exact cS)
   |split at he)
 ·split at he
  ·cases he
  ·unfold nQ at he
   repeat'(first
    |with_reducible exact fM he
    |with_reducible exact gI he
    |(simp only[reduceCtorEq]at he;done)
    |(simp only[AC]at he;subst he;exact cS)
    |(simp only[Do]at he;obtain⟨_,_,he⟩:=he)
    |(simp only[GE]at he;obtain⟨_,_,he⟩:=he;subst he;exact cS)
    |split at he)
 ·unfold tT at he
  repeat'(first
   |with_reducible exact fM he
   |with_reducible exact gI he
   |(simp only[reduceCtorEq]at he;done)
   |(simp only[AC]at he;subst he;exact cS)
   |(simp only[Do]at he;obtain⟨_,_,he⟩:=he)
   |(simp only[GE]at he;obtain⟨_,_,he⟩:=he;subst he;exact cS)
   |split at he)
 ·unfold yJ at he
  repeat'(first
   |with_reducible exact fM he
   |with_reducible exact gI he
   |(simp only[reduceCtorEq]at he;done)
   |(simp only[AC]at he;subst he;exact cS)
   |(simp only[Do]at he;obtain⟨_,_,he⟩:=he)
   |(simp only[GE]at he;obtain⟨_,_,he⟩:=he;subst he;exact cS)
   |split at he)
 ·unfold mD at he
  repeat'(first
   |with_reducible exact fM he
   |with_reducible exact gI he
   |(simp only[reduceCtorEq]at he;done)
   |(simp only[AC]at he;subst he;exact cS)
   |(simp only[Do]at he;obtain⟨_,_,he⟩:=he)
   |(simp only[GE]at he;obtain⟨_,_,he⟩:=he;subst he;exact cS)
   |split at he)
 ·unfold tW at he
  repeat'(first
   |with_reducible exact fM he
   |with_reducible exact gI he
   |(simp only[reduceCtorEq]at he;done)
   |(simp only[AC]at he;subst he;exact cS)
   |(simp only[Do]at he;obtain⟨_,_,he⟩:=he)
   |(simp only[GE]at he;obtain⟨_,_,he⟩:=he;subst he;exact cS)
   |split at he)
 ·unfold yI at he
  repeat'(first
   |with_reducible exact fM he
   |with_reducible exact gI he
   |(simp only[reduceCtorEq]at he;done)
   |(simp only[AC]at he;subst he;exact cS)
   |(simp only[Do]at he;obtain⟨_,_,he⟩:=he)
   |(simp only[GE]at he;obtain⟨_,_,he⟩:=he;subst he;exact cS)
   |split at he)
 ·unfold sE at he
  repeat'(first
   |with_reducible exact fM he
   |with_reducible exact gI he
   |(simp only[reduceCtorEq]at he;done)
   |(simp only[AC]at he;subst he;exact cS)
   |(simp only[Do]at he;obtain⟨_,_,he⟩:=he)
   |(simp only[GE]at he;obtain⟨_,_,he⟩:=he;subst he;exact cS)
   |split at he)
 ·unfold p8 at he
  repeat'(first
   |with_reducible exact fM he
   |with_reducible exact gI he
   |(simp only[reduceCtorEq]at he;done)
   |(simp only[AC]at he;subst he;exact cS)
   |(simp only[Do]at he;obtain⟨_,_,he⟩:=he)
   |(simp only[GE]at he;obtain⟨_,_,he⟩:=he;subst he;exact cS)
   |split at he)
 ·unfold p9 at he
  repeat'(first
   |with_reducible exact fM he
   |with_reducible exact gI he
   |(simp only[reduceCtorEq]at he;done)
   |(simp only[AC]at he;subst he;exact cS)
   |(simp only[Do]at he;obtain⟨_,_,he⟩:=he)
   |(simp only[GE]at he;obtain⟨_,_,he⟩:=he;subst he;exact cS)
   |split at he)
 ·unfold p9 at he
  repeat'(first
   |with_reducible exact fM he
   |with_reducible exact gI he
   |(simp only[reduceCtorEq]at he;done)
   |(simp only[AC]at he;subst he;exact cS)
   |(simp only[Do]at he;obtain⟨_,_,he⟩:=he)
   |(simp only[GE]at he;obtain⟨_,_,he⟩:=he;subst he;exact cS)
   |split at he)
 ·rename_i c ho
  split at he
  ·unfold q5 at he
   repeat'(first
    |with_reducible exact fM he
    |with_reducible exact gI he
    |(simp only[reduceCtorEq]at he;done)
    |(simp only[AC]at he;subst he;exact cS)
    |(simp only[Do]at he;obtain⟨_,_,he⟩:=he)
    |(simp only[GE]at he;obtain⟨_,_,he⟩:=he;subst he;exact cS)
    |split at he)
  ·simp only[Do]at he
   obtain⟨e1,yW,ug⟩:=he
   refine aiv ug ?_
   clear ug
   have he:=yW
   clear yW
   unfold lV yl ym mA at he
   repeat'(first
    |with_reducible exact fM he
    |with_reducible exact gI he
    |(simp only[reduceCtorEq]at he;done)
    |(simp only[AC]at he;subst he;exact cS)
    |(simp only[Do]at he;obtain⟨_,_,he⟩:=he)
    |(simp only[GE]at he;obtain⟨_,_,he⟩:=he;subst he;exact cS)
    |split at he)
  ·unfold v8 at he
   repeat'(first
    |with_reducible exact fM he
    |with_reducible exact gI he
    |(simp only[reduceCtorEq]at he;done)
    |(simp only[AC]at he;subst he;exact cS)
    |(simp only[Do]at he;obtain⟨_,_,he⟩:=he)
    |(simp only[GE]at he;obtain⟨_,_,he⟩:=he;subst he;exact cS)
    |split at he)
  ·repeat'(first
    |with_reducible exact fM he
    |with_reducible exact gI he
    |(simp only[reduceCtorEq]at he;done)
    |(simp only[AC]at he;subst he;exact cS)
    |(simp only[Do]at he;obtain⟨_,_,he⟩:=he)
    |(simp only[GE]at he;obtain⟨_,_,he⟩:=he;subst he;exact cS)
    |split at he)
  ·repeat'(first
    |with_reducible exact fM he
    |with_reducible exact gI he
    |(simp only[reduceCtorEq]at he;done)
    |(simp only[AC]at he;subst he;exact cS)
    |(simp only[Do]at he;obtain⟨_,_,he⟩:=he)
    |(simp only[GE]at he;obtain⟨_,_,he⟩:=he;subst he;exact cS)
    |split at he)
  ·rename_i cN hc
   split at he
   ·unfold pZ at he
    simp only[Do]at he
    obtain⟨x,_,he⟩:=he
    split at he
    ·cases he
    ·generalize(if eK C f o.dst=true then(if flat x.r=true then dJ x.r else .bp)else x.r)=rr at he
     split at he
     ·simp only[AC]at he;subst he;exact cS
     ·cases he
   split at he
   ·unfold tX at he
    repeat'(first
     |with_reducible exact fM he
     |with_reducible exact gI he
     |(simp only[reduceCtorEq]at he;done)
     |(simp only[AC]at he;subst he;exact cS)
     |(simp only[Do]at he;obtain⟨_,_,he⟩:=he)
     |(simp only[GE]at he;obtain⟨_,_,he⟩:=he;subst he;exact cS)
     |split at he)
   ·split at he
    ·split at he
     ·exact aiw he
     ·cases he
    ·unfold qX at he
     split at he
     ·split at he
      ·unfold xe at he
       repeat'(first
        |(simp only[reduceCtorEq]at he;done)
        |(simp only[AC]at he;subst he;exact cS)
        |split at he)
      split at he
      ·split at he
       ·generalize(if eK C f o.dst=true then _ else _)=r' at he
        split at he
        ·cases he
        ·split at he
         ·simp only[AC]at he;subst he;exact cS
         ·cases he
       ·cases he
      ·cases he
     ·cases he
  ·cases he
 ·cases he
end
end Go.Ab
namespace Go.Ab
open Go
inductive nJ(C:aF)(f:FuncId)(call:FuncId→List U→Option (U×List U))(ops:Array Oper)(S:ah)(o:Oper):bn→Prop|yes{e e':bn}:q9 S ops o=some true→bC C f call S true o=some e→e'.rd=e.rd→e'.wr=e.wr→(e'=e∨∃v,e.dA=(put o v [] []).dA∧e'.dA=(put o (.c8 true v) [] []).dA)→nJ C f call ops S o e'|no{e':bn}{x:U}:q9 S ops o=some false→e'.wr=[]→(x= .bp∨∃y,x= .c8 false y)→e'.dA=(put o x [] []).dA→nJ C f call ops S o e'
section
variable{C:aF}{E:Env}{w:World}{S:ah}{a:Act}{β:Id→Option Loc}{F:Id→List Nat}
variable{next:Act→World→Prop}{Q:Exit→Act→World→Prop}
variable{f:FuncId}{call:FuncId→List U→Option (U×List U)}{ops:Array Oper}
theorem R.Pr{I:Nat→Prop}{g:List Nat}{v:Value}{x:U}(h:R w I β g v (.c8 false x)):v=undef:=by cases h;rfl
theorem HQ{o:Oper}{e:bn}(h:tU C f call S ops o=some e):nJ C f call ops S o e:=by unfold tU at h;split at h;·{cases h};·rename_i g hg;split at h;·{rename_i hn;have:g=true:=by{simpa[q9,hn]using hg.symm};subst this;exact .yes hg h rfl rfl (.inl rfl)};·split at h;·{rename_i e0 BI;split at h;·{rename_i hw;simp only[AC]at h;subst h;rcases LM BI with⟨v,hv⟩|⟨hne,_⟩;·{cases g with|true=>(refine .yes hg BI rfl rfl (.inr ⟨v,hv, ?_⟩);simp only[hv,put];cases o.dst<;>rfl)|false=>refine .no (x:= .c8 false v) hg (by simpa using hw) (.inr ⟨v,rfl⟩) ?_;simp only[hv,put];cases o.dst<;>rfl};·exact absurd (by simpa using hw) hne};·cases g with|true=>(simp only[if_true,AC]at h;subst h;exact .yes hg BI rfl rfl (.inl rfl))|false=>simp only[GT,if_false,AC]at h;subst h;exact .no hg rfl (.inr ⟨_,rfl⟩) rfl};·cases g with|true=>(simp at h)|false=>simp only[GT,if_false,AC]at h;subst h;exact .no hg rfl (.inr ⟨_,rfl⟩) rfl
theorem TH(h:aL C E w S a β F){o:Oper}{g:Bool}(hg:q9 S ops o=some g):Region.wanted o (yielded ops a.tmps)=g:=by unfold q9 at hg;unfold Region.wanted;cases hgd:o.guard with|none=>(simp[hgd]at hg;simp[hg])|some J5=>obtain⟨j,want⟩:=J5;simp only[hgd]at hg⊢;unfold yielded;cases hd:(ops[j]?).bind (·.dst)with|none=>(simp[hd]at hg)|some d=>simp only[hd]at hg;simp only[Option.bind_some];have hr:=h.slot d;have rz:∀b,a.tmps.getD d undef= .bool b→a.tmps[d]? =some (.bool b):=fun b hb=>by{rw[Ha]at hb;cases hx:a.tmps[d]? with|none=>(rw[hx]at hb;simp[undef]at hb)|some x=>rw[hx]at hb;simpa using hb};split at hg;·{rename_i b hb;rw[hb]at hr;rw[rz b hr.gq.2];simpa using hg};·{rename_i g' b hb;rw[hb]at hr;simp only[AC]at hg;cases g' with|true=>(have:=(hr.Pt.2 rfl).gq.2;rw[rz b this];simpa using hg)|false=>have hu:=hr.Pr;have hnb:∀b,a.tmps[d]? ≠some (.bool b):=fun b hx=>by{rw[Ha,hx]at hu;simp[undef]at hu};have:g=false:=by{simpa using hg.symm};subst this;cases hx:a.tmps[d]? with|none=>(rfl)|some x=>cases x<;>first|rfl|exact absurd hx (hnb _)};·{rename_i x hb;rw[hb]at hr;have hu:=hr.Pr;have hnb:∀b,a.tmps[d]? ≠some (.bool b):=fun b hx=>by{rw[Ha,hx]at hu;simp[undef]at hu};have:g=false:=by{simpa using hg.symm};subst this;cases hx:a.tmps[d]? with|none=>(rfl)|some x=>cases x<;>first|rfl|exact absurd hx (hnb _)};·cases hg
theorem aga(hN:kn C)(dV:∀k as r,call k as=some r→Sound C k as r)(h:aL C E w S a β F){o:Oper}{e:bn}(he:nJ C f call ops S o e)(hd:cA S e)(hn:∀a' w',bu C E (S.app e) a' w'→next a' w'):if Region.wanted o (yielded ops a.tmps)then o.wp C.P a w next Q else next (a.put o.dst undef) w:=by cases he with| @yes e0 _ hg hop hrd hwr o6=>(rw[TH h hg,if_pos rfl];rcases o6 with rfl|⟨v,hv,zi⟩;·{exact FV hN dV h hop hd hn};·have I4:cA S e0:=by{unfold cA at hd⊢;rw[hv];rw[zi]at hd;cases bA:o.dst<;>simp[put,bA]at hd⊢;exact hd};refine FV hN dV h hop I4 fun a' w' hx=>hn a' w' ?_;obtain⟨β',F',hx⟩:=hx;refine⟨β',F', ?_⟩;cases bA:o.dst with|none=>(have e1:S.app e=S.app e0:=by{simp[ah.app,hv,zi,hwr,put,bA]};rw[e1];exact hx)|some d=>have hs:=hx.slot d;have e2:(S.app e0).t d=v:=by{simp[ah.app,hv,put,bA,cT,ak]};rw[e2]at hs;have:=hx.Tf d (.qe hs);have e1:S.app e=⟨(S.app e0).n,ak (S.app e0).t d (.c8 true v),(S.app e0).h⟩:=by{simp only[ah.app,hv,zi,hwr,put,bA,cT,ah.mk.injEq,true_and,and_true];funext t;simp only[ak];split<;>rfl};rw[e1];exact this)| @no _ x hg hwr hx o6=>rw[TH h hg];simp only[GT,if_false];refine hn _ _ ⟨β,F, ?_⟩;have e1:S.app e=S.app (put o x [] []):=by{simp[ah.app,o6,hwr,put]};rw[e1];have I4:cA S (put o x [] []):=by{unfold cA at hd⊢;rw[o6]at hd;exact hd};refine h.val o [] ?_ I4;rcases hx with rfl|⟨y,rfl⟩;·{exact .bp};·exact .qd
theorem ajC{P:Program}{o:Oper}{next next':Act→World→Prop}(h:o.wp P a w next Q)(hn:∀a' w' v,a'.tmps=(a.put o.dst v).tmps→next a' w'→next' a' w'):o.wp P a w next' Q:=by unfold Oper.wp at h⊢;cases hr:(execOp a.eval o).run P w with|ok x w1=>(rw[hr]at h;cases x with|value v=>(exact hn _ _ v rfl h)|skip=>(exact hn _ _ undef rfl h)|defer d=>(exact hn _ _ undef (by cases o.dst<;>rfl) h)|enter f args=>(simp only[Oper.upon]at h⊢;refine h.mono fun e w'' hh=> ?_;cases e with|returned v=>(exact hn _ _ v rfl hh)|_=>exact hh)|row r args=>(exact Rows.mono h fun v w'' hh=>hn _ _ v rfl hh)|_=>exact h)|halt x w1=>rw[hr]at h;cases x<;>exact h
def x5(K:Act→Prop)(ops:Array Oper):Prop:=∀(i:Nat)(o:Oper),ops[i]? =some o→∀a a' v,K a→a'.tmps=(a.put o.dst v).tmps→K a'
theorem KJ{K:Act→Prop}(hN:kn C)(dV:∀k as r,call k as=some r→Sound C k as r)(h:aL C E w S a β F){o:Oper}{e:bn}(he:nJ C f call ops S o e)(hd:cA S e)(hk:∀a' v,a'.tmps=(a.put o.dst v).tmps→K a')(hn:∀a' w',bu C E (S.app e) a' w'→K a'→next a' w'):if Region.wanted o (yielded ops a.tmps)then o.wp C.P a w next Q else next (a.put o.dst undef) w:=by have:=aga (Q:=Q) (next:=bu C E (S.app e)) hN dV h he hd (fun _ _ h=>h);split at this;·{rename_i hw;rw[if_pos hw];exact ajC this fun a' w' v e h=>hn _ _ h (hk _ v e)};·rename_i hw;rw[if_neg hw];exact hn _ _ this (hk _ undef rfl)
theorem RP{K:Act→Prop}(nX:x5 K ops)(hN:kn C)(dV:∀k as r,call k as=some r→Sound C k as r):∀(l:List Oper)(i:Nat){S S':ah}{ks:List iI}{a:Act}{w:World},(∀j,l[j]? =ops[i+j]?)→lW C f call ops i l S=some (S',ks)→bu C E S a w→K a→(∀a' w',bu C E S' a' w'→K a'→Q .normal a' w')→wpOps C.P ops Q (List.range' i l.length) a w|[],i,S,S',ks,a,w,_,h,hS,hK,hq=>by{simp[lW]at h;obtain⟨rfl,_⟩:=h;exact hq _ _ hS hK}|o::l,i,S,S',ks,a,w,hl,h,hS,hK,hq=>by have h0:ops[i]? =some o:=by{simpa using(hl 0).symm};simp only[lW,Do]at h;obtain⟨e,he,h⟩:=h;split at h;·{rename_i hd;obtain⟨⟨bE,k1⟩,h1,h2⟩:=Option.map_eq_some_iff.1 h;simp only[Prod.mk.injEq]at h2;obtain⟨rfl,_⟩:=h2;obtain⟨β,F,hS⟩:=hS;rw[List.length_cons,List.range'_succ,wpOps_cons];unfold wpOp;simp only[h0];have:=KJ (Q:=Q) (K:=K) (next:=wpOps C.P ops Q (List.range' (i+1) l.length)) hN dV hS (HQ he) hd (fun a' v e=>nX i o h0 a a' v hK e) fun a' w' hx hk=>RP nX hN dV l (i+1) (fun j=>by have:=hl (j+1);simpa[Nat.add_assoc,Nat.add_comm 1 j]using this) h1 hx hk hq;split at this;·{rename_i hw;simp only[hw,if_true];exact .inl this};·rename_i hw;simp only[hw];exact this};·cases h
end
end Go.Ab
