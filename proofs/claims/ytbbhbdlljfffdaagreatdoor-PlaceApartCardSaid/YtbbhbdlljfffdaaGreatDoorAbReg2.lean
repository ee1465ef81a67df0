import Derived.Test.YtbbhbdlljfffdaaGreatDoorAbGr
open Array renaming getD_eq_getD_getElem?→Hc
open Bool renaming false_eq_true→Hb
open Option renaming bind_eq_some_iff→GT,map_eq_some_iff→Ha
open Option.some renaming injEq→GE
set_option linter.all false
namespace Go.Ab
open Go
section
variable{C:aL}{E:Env}{w:World}{S:ah}{a:Act}{β:Id→Option Loc}{F:Id→List Nat}
variable{next:Act→World→Prop}{Q:Exit→Act→World→Prop}
theorem GZ(hN:kq C){f:FuncId}{call:FuncId→List U→Option (U×List U)}(ek:∀k as r,call k as=some r→Sound C k as r)(h:aP C E w S a β F){o:Oper}{e:bz}(he:bw C f call S true o=some e)(hd:cH S e)(hn:∀a' w',bD C E (S.app e) a' w'→next a' w'):o.wp C.P a w next Q:=by unfold bw at he;split at he;·{rename_i x ho;exact SV h (.inl ho) he hd hn};·{rename_i x ho;exact SV h (.inr ho) he hd hn};·{rename_i c x y ho;exact ah4 h ho he hd hn};·{rename_i t ho;exact ahw h ho he hd hn};·{rename_i t x ho;exact ahB h ho he hd hn};·{rename_i t p ho;exact ahC h ho he hd hn};·{rename_i t n p ho;exact ahE h ho he hd hn};·{rename_i t x ho;exact ahX h ho he hd hn};·{rename_i t x y ho;exact ah8 h ho he hd hn};·{rename_i x ho;exact ah3 h ho he hd hn};·{rename_i ho;exact ahz h ho he hd hn};·{rename_i ho;exact ah9 h ho he hd hn};·{rename_i ho;exact ahJ h ho he hd hn};·{rename_i ho;exact ahS h ho he hd hn};·{rename_i ho;exact ah1 h ho he hd hn};·{rename_i ho;exact ah0 h ho he hd hn};·{rename_i t x lo hi mx ho;cases mx with|none=>(exact ok_slice h ho (by simpa using he) hd hn)|some m=>simp at he};·{rename_i ho;exact ahP h ho he hd hn};·{rename_i ho;exact ahO h ho he hd hn};·{rename_i ho;exact ahU h ho he hd hn};·{rename_i ho;exact ahT h ho he hd hn};·{rename_i ho;exact ahN h ho he hd hn};·{rename_i ho;exact ah2 h ho he hd hn};·{rename_i ho;exact ahZ h ho he hd hn};·{rename_i ho;exact SU h (.inl ho) he hd hn};·{rename_i ho;exact SU h (.inr ho) he hd hn};·{rename_i c ho;split at he;·{rename_i hc;exact ahW h ho hc he hd hn};·{rename_i hc;exact ahx h ho hc he hd hn};·{rename_i hc;exact ahL h ho hc he hd hn};·{rename_i hc;split at he;·{rename_i vs hv;exact SX h ho hc _ (fun _ _=>rfl) hv he hd hn};·cases he};·{rename_i hc;split at he;·{rename_i vs hv;exact SX h ho hc _ (fun _ _=>rfl) hv he hd hn};·cases he};·{rename_i cN hc;split at he;·{rename_i x dZ;exact ahH hN.no h ho hc ek dZ he hd hn};·rename_i dZ;split at he;·{rename_i p hp;unfold pathOf at hp;split at hp;·{exact ahV hN.no h ho hc (hN.path _ _ hp) he hd hn};·cases hp};·split at he;·{split at he;·{rename_i k;refine ahI hN.no h ho hc ek ?_ he hd hn;simp only[ah.get,un,nK]at dZ;split at dZ;·{cases dZ};·rename_i hg;simpa using hg};·cases he};·exact ahG hN.no hN.look h ho hc ek dZ he hd hn};·cases he};·cases he
/-! ### What an operation writes among the slots -/
def Shaped(C:aL)(f:FuncId)(o:Oper)(e:bz):Prop:=(∃v,e.dK=(put o v [] []).dK)∨(e.wr≠[]∧∀x∈e.dK,x.1∈qU C f o)
theorem c6{C:aL}{f:FuncId}{o:Oper}{v:U}{rd:List Id}{wr:List (Id×Option Rows)}:Shaped C f o (put o v rd wr):= .inl ⟨v,rfl⟩
theorem gb{C:aL}{f:FuncId}{o:Oper}{v:U}{e:bz}(h:ret o v=some e):Shaped C f o e:=by have:=hM h;subst this;exact c6
theorem gR{C:aL}{f:FuncId}{o:Oper}{v:Option Value}{e:bz}(h:kK o v=some e):Shaped C f o e:=by unfold kK at h;split at h;·{split at h;·{exact gb h};·cases h};·cases h
theorem aj7{C:aL}{f:FuncId}{o:Oper}{e1 e:bz}(h:qs C f o e1=some e)(h1:Shaped C f o e1):Shaped C f o e:=by unfold qs at h;split at h;·{split at h;·{split at h;·{simp only[GE]at h;subst h;exact c6};·cases h};·{split at h;·{simp only[GE]at h;subst h;exact c6};·cases h};·cases h};·simp only[GE]at h;subst h;exact h1
theorem aj8{C:aL}{f:FuncId}{call:FuncId→List U→Option (U×List U)}{S:ah}{o:Oper}{e:bz}{k:FuncId}{args:List U}(he:rC C f call S o k args=some e):Shaped C f o e:=by unfold rC at he;split at he;·{split at he;·{generalize(if eL C f o.dst=true then _ else _)=r' at he;split at he;·{split at he;·{simp only[GE]at he;subst he;exact c6};·cases he};·cases he};·cases he};·cases he
theorem My{C:aL}{f:FuncId}{call:FuncId→List U→Option (U×List U)}{S:ah}{g:Bool}{o:Oper}{e:bz}(he:bw C f call S g o=some e):Shaped C f o e:=by
 unfold bw at he
 split at he
 ·exact gb he
 ·exact gb he
 ·unfold uz at he
  repeat'(first
   |with_reducible exact gb he
   |with_reducible exact gR he
   |(simp only[reduceCtorEq]at he;done)
   |(simp only[GE]at he;subst he;exact c6)
   |(simp only[GT]at he;obtain⟨_,_,he⟩:=he)
   |(simp only[Ha]at he;obtain⟨_,_,he⟩:=he;subst he;exact c6)
   |split at he)
 ·unfold sQ at he
  repeat'(first
   |with_reducible exact gb he
   |with_reducible exact gR he
   |(simp only[reduceCtorEq]at he;done)
   |(simp only[GE]at he;subst he;exact c6)
   |(simp only[GT]at he;obtain⟨_,_,he⟩:=he)
   |(simp only[Ha]at he;obtain⟨_,_,he⟩:=he;subst he;exact c6)
   |split at he)
 ·unfold qo at he
  repeat'(first
   |with_reducible exact gb he
   |with_reducible exact gR he
   |(simp only[reduceCtorEq]at he;done)
   |(simp only[GE]at he;subst he;exact c6)
   |(simp only[GT]at he;obtain⟨_,_,he⟩:=he)
   |(simp only[Ha]at he;obtain⟨_,_,he⟩:=he;subst he;exact c6)
   |split at he)
 ·unfold uu at he
  repeat'(first
   |with_reducible exact gb he
   |with_reducible exact gR he
   |(simp only[reduceCtorEq]at he;done)
   |(simp only[GE]at he;subst he;exact c6)
   |(simp only[GT]at he;obtain⟨_,_,he⟩:=he)
   |(simp only[Ha]at he;obtain⟨_,_,he⟩:=he;subst he;exact c6)
   |split at he)
 ·unfold oo zy sR at he
  repeat'(first
   |with_reducible exact gb he
   |with_reducible exact gR he
   |(simp only[reduceCtorEq]at he;done)
   |(simp only[GE]at he;subst he;exact c6)
   |(simp only[GT]at he;obtain⟨_,_,he⟩:=he)
   |(simp only[Ha]at he;obtain⟨_,_,he⟩:=he;subst he;exact c6)
   |split at he)
 ·unfold lD at he
  repeat'(first
   |with_reducible exact gb he
   |with_reducible exact gR he
   |(simp only[reduceCtorEq]at he;done)
   |(simp only[GE]at he;subst he;exact c6)
   |(simp only[GT]at he;obtain⟨_,_,he⟩:=he)
   |(simp only[Ha]at he;obtain⟨_,_,he⟩:=he;subst he;exact c6)
   |split at he)
 ·rename_i t ao x ho
  unfold ou at he
  split at he
  ·split at he
   ·split at he
    ·cases he
    ·split at he
     ·obtain⟨r,_,he⟩:=Option.bind_eq_some_iff.1 he
      split at he
      ·split at he
       ·rename_i ta tf
        split at he
        ·rename_i hc
         simp only[Bool.and_eq_true,Option.isNone_iff_eq_none]at hc
         simp only[GE]at he;subst he
         refine .inr ⟨by simp,fun y hy=> ?_⟩
         obtain rfl:=List.mem_singleton.1 hy
         unfold qU
         simp[ho,tf]
        ·cases he
       ·split at he
        ·simp only[GE]at he;subst he;exact c6
        ·cases he
      ·cases he
     ·cases he
   ·cases he
  ·cases he
 ·unfold zB at he
  repeat'(first
   |with_reducible exact gb he
   |with_reducible exact gR he
   |(simp only[reduceCtorEq]at he;done)
   |(simp only[GE]at he;subst he;exact c6)
   |(simp only[GT]at he;obtain⟨_,_,he⟩:=he)
   |(simp only[Ha]at he;obtain⟨_,_,he⟩:=he;subst he;exact c6)
   |split at he)
 ·unfold mP at he
  repeat'(first
   |with_reducible exact gb he
   |with_reducible exact gR he
   |(simp only[reduceCtorEq]at he;done)
   |(simp only[GE]at he;subst he;exact c6)
   |(simp only[GT]at he;obtain⟨_,_,he⟩:=he)
   |(simp only[Ha]at he;obtain⟨_,_,he⟩:=he;subst he;exact c6)
   |split at he)
 ·unfold wP at he
  repeat'(first
   |with_reducible exact gb he
   |with_reducible exact gR he
   |(simp only[reduceCtorEq]at he;done)
   |(simp only[GE]at he;subst he;exact c6)
   |(simp only[GT]at he;obtain⟨_,_,he⟩:=he)
   |(simp only[Ha]at he;obtain⟨_,_,he⟩:=he;subst he;exact c6)
   |split at he)
 ·unfold sS Fy B8 at he
  repeat'(first
   |with_reducible exact gb he
   |with_reducible exact gR he
   |(simp only[reduceCtorEq]at he;done)
   |(simp only[GE]at he;subst he;exact c6)
   |(simp only[GT]at he;obtain⟨_,_,he⟩:=he)
   |(simp only[Ha]at he;obtain⟨_,_,he⟩:=he;subst he;exact c6)
   |split at he)
 ·unfold uw at he
  repeat'(first
   |with_reducible exact gb he
   |with_reducible exact gR he
   |(simp only[reduceCtorEq]at he;done)
   |(simp only[GE]at he;subst he;exact c6)
   |(simp only[GT]at he;obtain⟨_,_,he⟩:=he)
   |(simp only[Ha]at he;obtain⟨_,_,he⟩:=he;subst he;exact c6)
   |split at he)
 ·exact gb he
 ·unfold sU at he
  repeat'(first
   |with_reducible exact gb he
   |with_reducible exact gR he
   |(simp only[reduceCtorEq]at he;done)
   |(simp only[GE]at he;subst he;exact c6)
   |(simp only[GT]at he;obtain⟨_,_,he⟩:=he)
   |(simp only[Ha]at he;obtain⟨_,_,he⟩:=he;subst he;exact c6)
   |split at he)
 ·split at he
  ·cases he
  ·unfold ot at he
   repeat'(first
    |with_reducible exact gb he
    |with_reducible exact gR he
    |(simp only[reduceCtorEq]at he;done)
    |(simp only[GE]at he;subst he;exact c6)
    |(simp only[GT]at he;obtain⟨_,_,he⟩:=he)
    |(simp only[Ha]at he;obtain⟨_,_,he⟩:=he;subst he;exact c6)
    |split at he)
 ·unfold rG at he
  repeat'(first
   |with_reducible exact gb he
   |with_reducible exact gR he
   |(simp only[reduceCtorEq]at he;done)
   |(simp only[GE]at he;subst he;exact c6)
   |(simp only[GT]at he;obtain⟨_,_,he⟩:=he)
   |(simp only[Ha]at he;obtain⟨_,_,he⟩:=he;subst he;exact c6)
   |split at he)
 ·unfold zA at he
  repeat'(first
   |with_reducible exact gb he
   |with_reducible exact gR he
   |(simp only[reduceCtorEq]at he;done)
   |(simp only[GE]at he;subst he;exact c6)
   |(simp only[GT]at he;obtain⟨_,_,he⟩:=he)
   |(simp only[Ha]at he;obtain⟨_,_,he⟩:=he;subst he;exact c6)
   |split at he)
 ·unfold mQ at he
  repeat'(first
   |with_reducible exact gb he
   |with_reducible exact gR he
   |(simp only[reduceCtorEq]at he;done)
   |(simp only[GE]at he;subst he;exact c6)
   |(simp only[GT]at he;obtain⟨_,_,he⟩:=he)
   |(simp only[Ha]at he;obtain⟨_,_,he⟩:=he;subst he;exact c6)
   |split at he)
 ·unfold ux at he
  repeat'(first
   |with_reducible exact gb he
   |with_reducible exact gR he
   |(simp only[reduceCtorEq]at he;done)
   |(simp only[GE]at he;subst he;exact c6)
   |(simp only[GT]at he;obtain⟨_,_,he⟩:=he)
   |(simp only[Ha]at he;obtain⟨_,_,he⟩:=he;subst he;exact c6)
   |split at he)
 ·unfold zz at he
  repeat'(first
   |with_reducible exact gb he
   |with_reducible exact gR he
   |(simp only[reduceCtorEq]at he;done)
   |(simp only[GE]at he;subst he;exact c6)
   |(simp only[GT]at he;obtain⟨_,_,he⟩:=he)
   |(simp only[Ha]at he;obtain⟨_,_,he⟩:=he;subst he;exact c6)
   |split at he)
 ·unfold sV at he
  repeat'(first
   |with_reducible exact gb he
   |with_reducible exact gR he
   |(simp only[reduceCtorEq]at he;done)
   |(simp only[GE]at he;subst he;exact c6)
   |(simp only[GT]at he;obtain⟨_,_,he⟩:=he)
   |(simp only[Ha]at he;obtain⟨_,_,he⟩:=he;subst he;exact c6)
   |split at he)
 ·unfold oq at he
  repeat'(first
   |with_reducible exact gb he
   |with_reducible exact gR he
   |(simp only[reduceCtorEq]at he;done)
   |(simp only[GE]at he;subst he;exact c6)
   |(simp only[GT]at he;obtain⟨_,_,he⟩:=he)
   |(simp only[Ha]at he;obtain⟨_,_,he⟩:=he;subst he;exact c6)
   |split at he)
 ·unfold qp at he
  repeat'(first
   |with_reducible exact gb he
   |with_reducible exact gR he
   |(simp only[reduceCtorEq]at he;done)
   |(simp only[GE]at he;subst he;exact c6)
   |(simp only[GT]at he;obtain⟨_,_,he⟩:=he)
   |(simp only[Ha]at he;obtain⟨_,_,he⟩:=he;subst he;exact c6)
   |split at he)
 ·unfold qp at he
  repeat'(first
   |with_reducible exact gb he
   |with_reducible exact gR he
   |(simp only[reduceCtorEq]at he;done)
   |(simp only[GE]at he;subst he;exact c6)
   |(simp only[GT]at he;obtain⟨_,_,he⟩:=he)
   |(simp only[Ha]at he;obtain⟨_,_,he⟩:=he;subst he;exact c6)
   |split at he)
 ·rename_i c ho
  split at he
  ·unfold rH at he
   repeat'(first
    |with_reducible exact gb he
    |with_reducible exact gR he
    |(simp only[reduceCtorEq]at he;done)
    |(simp only[GE]at he;subst he;exact c6)
    |(simp only[GT]at he;obtain⟨_,_,he⟩:=he)
    |(simp only[Ha]at he;obtain⟨_,_,he⟩:=he;subst he;exact c6)
    |split at he)
  ·simp only[GT]at he
   obtain⟨e1,zS,uE⟩:=he
   refine aj7 uE ?_
   clear uE
   have he:=zS
   clear zS
   unfold l8 y9 za mL at he
   repeat'(first
    |with_reducible exact gb he
    |with_reducible exact gR he
    |(simp only[reduceCtorEq]at he;done)
    |(simp only[GE]at he;subst he;exact c6)
    |(simp only[GT]at he;obtain⟨_,_,he⟩:=he)
    |(simp only[Ha]at he;obtain⟨_,_,he⟩:=he;subst he;exact c6)
    |split at he)
  ·unfold wO at he
   repeat'(first
    |with_reducible exact gb he
    |with_reducible exact gR he
    |(simp only[reduceCtorEq]at he;done)
    |(simp only[GE]at he;subst he;exact c6)
    |(simp only[GT]at he;obtain⟨_,_,he⟩:=he)
    |(simp only[Ha]at he;obtain⟨_,_,he⟩:=he;subst he;exact c6)
    |split at he)
  ·repeat'(first
    |with_reducible exact gb he
    |with_reducible exact gR he
    |(simp only[reduceCtorEq]at he;done)
    |(simp only[GE]at he;subst he;exact c6)
    |(simp only[GT]at he;obtain⟨_,_,he⟩:=he)
    |(simp only[Ha]at he;obtain⟨_,_,he⟩:=he;subst he;exact c6)
    |split at he)
  ·repeat'(first
    |with_reducible exact gb he
    |with_reducible exact gR he
    |(simp only[reduceCtorEq]at he;done)
    |(simp only[GE]at he;subst he;exact c6)
    |(simp only[GT]at he;obtain⟨_,_,he⟩:=he)
    |(simp only[Ha]at he;obtain⟨_,_,he⟩:=he;subst he;exact c6)
    |split at he)
  ·rename_i cN hc
   split at he
   ·unfold qk at he
    simp only[GT]at he
    obtain⟨x,_,he⟩:=he
    split at he
    ·cases he
    ·generalize(if eL C f o.dst=true then(if flat x.r=true then dF x.r else .bB)else x.r)=rr at he
     split at he
     ·simp only[GE]at he;subst he;exact c6
     ·cases he
   split at he
   ·unfold uy at he
    repeat'(first
     |with_reducible exact gb he
     |with_reducible exact gR he
     |(simp only[reduceCtorEq]at he;done)
     |(simp only[GE]at he;subst he;exact c6)
     |(simp only[GT]at he;obtain⟨_,_,he⟩:=he)
     |(simp only[Ha]at he;obtain⟨_,_,he⟩:=he;subst he;exact c6)
     |split at he)
   ·split at he
    ·split at he
     ·exact aj8 he
     ·cases he
    ·unfold qj at he
     split at he
     ·split at he
      ·unfold uY at he
       repeat'(first
        |(simp only[reduceCtorEq]at he;done)
        |(simp only[GE]at he;subst he;exact c6)
        |split at he)
      split at he
      ·split at he
       ·generalize(if eL C f o.dst=true then _ else _)=r' at he
        split at he
        ·cases he
        ·split at he
         ·simp only[GE]at he;subst he;exact c6
         ·cases he
       ·cases he
      ·cases he
     ·cases he
  ·cases he
 ·cases he
end
end Go.Ab
namespace Go.Ab
open Go
inductive n8(C:aL)(f:FuncId)(call:FuncId→List U→Option (U×List U))(ops:Array Oper)(S:ah)(o:Oper):bz→Prop|yes{e e':bz}:rO S ops o=some true→bw C f call S true o=some e→e'.rd=e.rd→e'.wr=e.wr→(e'=e∨∃v,e.dK=(put o v [] []).dK∧e'.dK=(put o (.dw true v) [] []).dK)→n8 C f call ops S o e'|no{e':bz}{x:U}:rO S ops o=some false→e'.wr=[]→(x= .bB∨∃y,x= .dw false y)→e'.dK=(put o x [] []).dK→n8 C f call ops S o e'
section
variable{C:aL}{E:Env}{w:World}{S:ah}{a:Act}{β:Id→Option Loc}{F:Id→List Nat}
variable{next:Act→World→Prop}{Q:Exit→Act→World→Prop}
variable{f:FuncId}{call:FuncId→List U→Option (U×List U)}{ops:Array Oper}
theorem R.Qy{I:Nat→Prop}{g:List Nat}{v:Value}{x:U}(h:R w I β g v (.dw false x)):v=undef:=by cases h;rfl
theorem I3{o:Oper}{e:bz}(h:uv C f call S ops o=some e):n8 C f call ops S o e:=by unfold uv at h;split at h;·{cases h};·rename_i g hg;split at h;·{rename_i hn;have:g=true:=by{simpa[rO,hn]using hg.symm};subst this;exact .yes hg h rfl rfl (.inl rfl)};·split at h;·{rename_i e0 Cy;split at h;·{rename_i hw;simp only[GE]at h;subst h;rcases My Cy with⟨v,hv⟩|⟨hne,_⟩;·{cases g with|true=>(refine .yes hg Cy rfl rfl (.inr ⟨v,hv, ?_⟩);simp only[hv,put];cases o.dst<;>rfl)|false=>refine .no (x:= .dw false v) hg (by simpa using hw) (.inr ⟨v,rfl⟩) ?_;simp only[hv,put];cases o.dst<;>rfl};·exact absurd (by simpa using hw) hne};·cases g with|true=>(simp only[if_true,GE]at h;subst h;exact .yes hg Cy rfl rfl (.inl rfl))|false=>simp only[Hb,if_false,GE]at h;subst h;exact .no hg rfl (.inr ⟨_,rfl⟩) rfl};·cases g with|true=>(simp at h)|false=>simp only[Hb,if_false,GE]at h;subst h;exact .no hg rfl (.inr ⟨_,rfl⟩) rfl
theorem U2(h:aP C E w S a β F){o:Oper}{g:Bool}(hg:rO S ops o=some g):Region.wanted o (yielded ops a.tmps)=g:=by unfold rO at hg;unfold Region.wanted;cases hgd:o.guard with|none=>(simp[hgd]at hg;simp[hg])|some KU=>obtain⟨j,want⟩:=KU;simp only[hgd]at hg⊢;unfold yielded;cases hd:(ops[j]?).bind (·.dst)with|none=>(simp[hd]at hg)|some d=>simp only[hd]at hg;simp only[Option.bind_some];have hr:=h.slot d;have rV:∀b,a.tmps.getD d undef= .bool b→a.tmps[d]? =some (.bool b):=fun b hb=>by{rw[Hc]at hb;cases hx:a.tmps[d]? with|none=>(rw[hx]at hb;simp[undef]at hb)|some x=>rw[hx]at hb;simpa using hb};split at hg;·{rename_i b hb;rw[hb]at hr;rw[rV b hr.gE.2];simpa using hg};·{rename_i g' b hb;rw[hb]at hr;simp only[GE]at hg;cases g' with|true=>(have:=(hr.Qz.2 rfl).gE.2;rw[rV b this];simpa using hg)|false=>have hu:=hr.Qy;have hnb:∀b,a.tmps[d]? ≠some (.bool b):=fun b hx=>by{rw[Hc,hx]at hu;simp[undef]at hu};have:g=false:=by{simpa using hg.symm};subst this;cases hx:a.tmps[d]? with|none=>(rfl)|some x=>cases x<;>first|rfl|exact absurd hx (hnb _)};·{rename_i x hb;rw[hb]at hr;have hu:=hr.Qy;have hnb:∀b,a.tmps[d]? ≠some (.bool b):=fun b hx=>by{rw[Hc,hx]at hu;simp[undef]at hu};have:g=false:=by{simpa using hg.symm};subst this;cases hx:a.tmps[d]? with|none=>(rfl)|some x=>cases x<;>first|rfl|exact absurd hx (hnb _)};·cases hg
theorem ahM(hN:kq C)(ek:∀k as r,call k as=some r→Sound C k as r)(h:aP C E w S a β F){o:Oper}{e:bz}(he:n8 C f call ops S o e)(hd:cH S e)(hn:∀a' w',bD C E (S.app e) a' w'→next a' w'):if Region.wanted o (yielded ops a.tmps)then o.wp C.P a w next Q else next (a.put o.dst undef) w:=by cases he with| @yes e0 _ hg hop hrd hwr pQ=>(rw[U2 h hg,AC rfl];rcases pQ with rfl|⟨v,hv,Af⟩;·{exact GZ hN ek h hop hd hn};·have JX:cH S e0:=by{unfold cH at hd⊢;rw[hv];rw[Af]at hd;cases bG:o.dst<;>simp[put,bG]at hd⊢;exact hd};refine GZ hN ek h hop JX fun a' w' hx=>hn a' w' ?_;obtain⟨β',F',hx⟩:=hx;refine⟨β',F', ?_⟩;cases bG:o.dst with|none=>(have e1:S.app e=S.app e0:=by{simp[ah.app,hv,Af,hwr,put,bG]};rw[e1];exact hx)|some d=>have hs:=hx.slot d;have e2:(S.app e0).t d=v:=by{simp[ah.app,hv,put,bG,c8,an]};rw[e2]at hs;have:=hx.Uw d (.qv hs);have e1:S.app e=⟨(S.app e0).n,an (S.app e0).t d (.dw true v),(S.app e0).h⟩:=by{simp only[ah.app,hv,Af,hwr,put,bG,c8,ah.mk.injEq,true_and,and_true];funext t;simp only[an];split<;>rfl};rw[e1];exact this)| @no _ x hg hwr hx pQ=>rw[U2 h hg];simp only[Hb,if_false];refine hn _ _ ⟨β,F, ?_⟩;have e1:S.app e=S.app (put o x [] []):=by{simp[ah.app,pQ,hwr,put]};rw[e1];have JX:cH S (put o x [] []):=by{unfold cH at hd⊢;rw[pQ]at hd;exact hd};refine h.val o [] ?_ JX;rcases hx with rfl|⟨y,rfl⟩;·{exact .bB};·exact .qu
theorem ak9{P:Program}{o:Oper}{next next':Act→World→Prop}(h:o.wp P a w next Q)(hn:∀a' w' v,a'.tmps=(a.put o.dst v).tmps→next a' w'→next' a' w'):o.wp P a w next' Q:=by unfold Oper.wp at h⊢;cases hr:(execOp a.eval o).run P w with|ok x w1=>(rw[hr]at h;cases x with|value v=>(exact hn _ _ v rfl h)|skip=>(exact hn _ _ undef rfl h)|defer d=>(exact hn _ _ undef (by cases o.dst<;>rfl) h)|enter f args=>(simp only[Oper.upon]at h⊢;refine h.mono fun e w'' hh=> ?_;cases e with|returned v=>(exact hn _ _ v rfl hh)|_=>exact hh)|row r args=>(exact Rows.mono h fun v w'' hh=>hn _ _ v rfl hh)|_=>exact h)|halt x w1=>rw[hr]at h;cases x<;>exact h
def yV(K:Act→Prop)(ops:Array Oper):Prop:=∀(i:Nat)(o:Oper),ops[i]? =some o→∀a a' v,K a→a'.tmps=(a.put o.dst v).tmps→K a'
theorem Lv{K:Act→Prop}(hN:kq C)(ek:∀k as r,call k as=some r→Sound C k as r)(h:aP C E w S a β F){o:Oper}{e:bz}(he:n8 C f call ops S o e)(hd:cH S e)(hk:∀a' v,a'.tmps=(a.put o.dst v).tmps→K a')(hn:∀a' w',bD C E (S.app e) a' w'→K a'→next a' w'):if Region.wanted o (yielded ops a.tmps)then o.wp C.P a w next Q else next (a.put o.dst undef) w:=by have:=ahM (Q:=Q) (next:=bD C E (S.app e)) hN ek h he hd (fun _ _ h=>h);split at this;·{rename_i hw;rw[AC hw];exact ak9 this fun a' w' v e h=>hn _ _ h (hk _ v e)};·rename_i hw;rw[Do hw];exact hn _ _ this (hk _ undef rfl)
theorem SW{K:Act→Prop}(oA:yV K ops)(hN:kq C)(ek:∀k as r,call k as=some r→Sound C k as r):∀(l:List Oper)(i:Nat){S S':ah}{ks:List iU}{a:Act}{w:World},(∀j,l[j]? =ops[i+j]?)→l9 C f call ops i l S=some (S',ks)→bD C E S a w→K a→(∀a' w',bD C E S' a' w'→K a'→Q .normal a' w')→wpOps C.P ops Q (List.range' i l.length) a w|[],i,S,S',ks,a,w,_,h,hS,hK,hq=>by{simp[l9]at h;obtain⟨rfl,_⟩:=h;exact hq _ _ hS hK}|o::l,i,S,S',ks,a,w,hl,h,hS,hK,hq=>by have h0:ops[i]? =some o:=by{simpa using(hl 0).symm};simp only[l9,GT]at h;obtain⟨e,he,h⟩:=h;split at h;·{rename_i hd;obtain⟨⟨bJ,k1⟩,h1,h2⟩:=Option.map_eq_some_iff.1 h;simp only[Prod.mk.injEq]at h2;obtain⟨rfl,_⟩:=h2;obtain⟨β,F,hS⟩:=hS;rw[List.length_cons,List.range'_succ,wpOps_cons];unfold wpOp;simp only[h0];have:=Lv (Q:=Q) (K:=K) (next:=wpOps C.P ops Q (List.range' (i+1) l.length)) hN ek hS (I3 he) hd (fun a' v e=>oA i o h0 a a' v hK e) fun a' w' hx hk=>SW oA hN ek l (i+1) (fun j=>by have:=hl (j+1);simpa[Nat.add_assoc,Nat.add_comm 1 j]using this) h1 hx hk hq;split at this;·{rename_i hw;simp only[hw,if_true];exact .inl this};·rename_i hw;simp only[hw];exact this};·cases h
end
end Go.Ab
