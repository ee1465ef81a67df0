import Derived.Test.YtbbhbdlljfffdaaGreatDoorAbGr
open Array renaming getD_eq_getD_getElem?→Hc
open Bool renaming false_eq_true→Hb
open Option renaming bind_eq_some_iff→GT,map_eq_some_iff→Ha
open Option.some renaming injEq→GE
set_option linter.all false
namespace Go.Ab
open Go
section
variable{C:av}{E:Env}{w:World}{S:ah}{a:Act}{β:Id→Option Loc}{F:Id→List Nat}
variable{next:Act→World→Prop}{Q:Exit→Act→World→Prop}
theorem BY(hN:iq C){f:FuncId}{call:FuncId→List U→Option (U×List U)}(cS:∀k as r,call k as=some r→Sound C k as r)(h:ax C E w S a β F){o:Oper}{e:aJ}(he:aR C f call S true o=some e)(hd:bV S e)(hn:∀a' w',aO C E (S.app e) a' w'→next a' w'):o.wp C.P a w next Q:=by unfold aR at he;split at he;·{rename_i x ho;exact Me h (.inl ho) he hd hn};·{rename_i x ho;exact Me h (.inr ho) he hd hn};·{rename_i c x y ho;exact aaa h ho he hd hn};·{rename_i t ho;exact ZC h ho he hd hn};·{rename_i t x ho;exact ZH h ho he hd hn};·{rename_i t p ho;exact ZI h ho he hd hn};·{rename_i t n p ho;exact ZK h ho he hd hn};·{rename_i t x ho;exact Z3 h ho he hd hn};·{rename_i t x y ho;exact aae h ho he hd hn};·{rename_i x ho;exact Z9 h ho he hd hn};·{rename_i ho;exact ZF h ho he hd hn};·{rename_i ho;exact aaf h ho he hd hn};·{rename_i ho;exact ZP h ho he hd hn};·{rename_i ho;exact ZY h ho he hd hn};·{rename_i ho;exact Z7 h ho he hd hn};·{rename_i ho;exact Z6 h ho he hd hn};·{rename_i t x lo hi mx ho;cases mx with|none=>(exact ok_slice h ho (by simpa using he) hd hn)|some m=>simp at he};·{rename_i ho;exact ZV h ho he hd hn};·{rename_i ho;exact ZU h ho he hd hn};·{rename_i ho;exact Z0 h ho he hd hn};·{rename_i ho;exact ZZ h ho he hd hn};·{rename_i ho;exact ZT h ho he hd hn};·{rename_i ho;exact Z8 h ho he hd hn};·{rename_i ho;exact Z5 h ho he hd hn};·{rename_i ho;exact Md h (.inl ho) he hd hn};·{rename_i ho;exact Md h (.inr ho) he hd hn};·{rename_i c ho;split at he;·{rename_i hc;exact Z2 h ho hc he hd hn};·{rename_i hc;exact ZD h ho hc he hd hn};·{rename_i hc;exact ZR h ho hc he hd hn};·{rename_i hc;split at he;·{rename_i vs hv;exact Mg h ho hc _ (fun _ _=>rfl) hv he hd hn};·cases he};·{rename_i hc;split at he;·{rename_i vs hv;exact Mg h ho hc _ (fun _ _=>rfl) hv he hd hn};·cases he};·{rename_i bW hc;split at he;·{rename_i x cW;exact ZN hN.no h ho hc cS cW he hd hn};·rename_i cW;split at he;·{rename_i p hp;unfold pathOf at hp;split at hp;·{exact Z1 hN.no h ho hc (hN.path _ _ hp) he hd hn};·cases hp};·split at he;·{split at he;·{rename_i k;refine ZO hN.no h ho hc cS ?_ he hd hn;simp only[ah.get,un,kF]at cW;split at cW;·{cases cW};·rename_i hg;simpa using hg};·cases he};·exact ZM hN.no hN.look h ho hc cS cW he hd hn};·cases he};·cases he
/-! ### What an operation writes among the slots -/
def Shaped(C:av)(f:FuncId)(o:Oper)(e:aJ):Prop:=(∃v,e.cG=(put o v [] []).cG)∨(e.wr≠[]∧∀x∈e.cG,x.1∈nA C f o)
theorem b9{C:av}{f:FuncId}{o:Oper}{v:U}{rd:List Id}{wr:List (Id×Option Rows)}:Shaped C f o (put o v rd wr):= .inl ⟨v,rfl⟩
theorem eH{C:av}{f:FuncId}{o:Oper}{v:U}{e:aJ}(h:ret o v=some e):Shaped C f o e:=by have:=fz h;subst this;exact b9
theorem fj{C:av}{f:FuncId}{o:Oper}{v:Option Value}{e:aJ}(h:iI o v=some e):Shaped C f o e:=by unfold iI at h;split at h;·{split at h;·{exact eH h};·cases h};·cases h
theorem ab8{C:av}{f:FuncId}{o:Oper}{e1 e:aJ}(h:oY C f o e1=some e)(h1:Shaped C f o e1):Shaped C f o e:=by unfold oY at h;split at h;·{split at h;·{split at h;·{simp only[GE]at h;subst h;exact b9};·cases h};·{split at h;·{simp only[GE]at h;subst h;exact b9};·cases h};·cases h};·simp only[GE]at h;subst h;exact h1
theorem ab9{C:av}{f:FuncId}{call:FuncId→List U→Option (U×List U)}{S:ah}{o:Oper}{e:aJ}{k:FuncId}{args:List U}(he:nQ C f call S o k args=some e):Shaped C f o e:=by unfold nQ at he;split at he;·{split at he;·{generalize(if dI C f o.dst=true then _ else _)=r' at he;split at he;·{split at he;·{simp only[GE]at he;subst he;exact b9};·cases he};·cases he};·cases he};·cases he
theorem GP{C:av}{f:FuncId}{call:FuncId→List U→Option (U×List U)}{S:ah}{g:Bool}{o:Oper}{e:aJ}(he:aR C f call S g o=some e):Shaped C f o e:=by
 unfold aR at he
 split at he
 ·exact eH he
 ·exact eH he
 ·unfold qq at he
  repeat'(first
   |with_reducible exact eH he
   |with_reducible exact fj he
   |(simp only[reduceCtorEq]at he;done)
   |(simp only[GE]at he;subst he;exact b9)
   |(simp only[GT]at he;obtain⟨_,_,he⟩:=he)
   |(simp only[Ha]at he;obtain⟨_,_,he⟩:=he;subst he;exact b9)
   |split at he)
 ·unfold oQ at he
  repeat'(first
   |with_reducible exact eH he
   |with_reducible exact fj he
   |(simp only[reduceCtorEq]at he;done)
   |(simp only[GE]at he;subst he;exact b9)
   |(simp only[GT]at he;obtain⟨_,_,he⟩:=he)
   |(simp only[Ha]at he;obtain⟨_,_,he⟩:=he;subst he;exact b9)
   |split at he)
 ·unfold mV at he
  repeat'(first
   |with_reducible exact eH he
   |with_reducible exact fj he
   |(simp only[reduceCtorEq]at he;done)
   |(simp only[GE]at he;subst he;exact b9)
   |(simp only[GT]at he;obtain⟨_,_,he⟩:=he)
   |(simp only[Ha]at he;obtain⟨_,_,he⟩:=he;subst he;exact b9)
   |split at he)
 ·unfold ql at he
  repeat'(first
   |with_reducible exact eH he
   |with_reducible exact fj he
   |(simp only[reduceCtorEq]at he;done)
   |(simp only[GE]at he;subst he;exact b9)
   |(simp only[GT]at he;obtain⟨_,_,he⟩:=he)
   |(simp only[Ha]at he;obtain⟨_,_,he⟩:=he;subst he;exact b9)
   |split at he)
 ·unfold mW xz oR at he
  repeat'(first
   |with_reducible exact eH he
   |with_reducible exact fj he
   |(simp only[reduceCtorEq]at he;done)
   |(simp only[GE]at he;subst he;exact b9)
   |(simp only[GT]at he;obtain⟨_,_,he⟩:=he)
   |(simp only[Ha]at he;obtain⟨_,_,he⟩:=he;subst he;exact b9)
   |split at he)
 ·unfold jU at he
  repeat'(first
   |with_reducible exact eH he
   |with_reducible exact fj he
   |(simp only[reduceCtorEq]at he;done)
   |(simp only[GE]at he;subst he;exact b9)
   |(simp only[GT]at he;obtain⟨_,_,he⟩:=he)
   |(simp only[Ha]at he;obtain⟨_,_,he⟩:=he;subst he;exact b9)
   |split at he)
 ·rename_i t ao x ho
  unfold k7 at he
  split at he
  ·split at he
   ·split at he
    ·cases he
    ·split at he
     ·obtain⟨r,_,he⟩:=Option.bind_eq_some_iff.1 he
      split at he
      ·split at he
       ·rename_i ta pz
        split at he
        ·rename_i hc
         simp only[Bool.and_eq_true,Option.isNone_iff_eq_none]at hc
         simp only[GE]at he;subst he
         refine .inr ⟨by simp,fun y hy=> ?_⟩
         obtain rfl:=List.mem_singleton.1 hy
         unfold nA
         simp[ho,pz]
        ·cases he
       ·split at he
        ·simp only[GE]at he;subst he;exact b9
        ·cases he
      ·cases he
     ·cases he
   ·cases he
  ·cases he
 ·unfold uN at he
  repeat'(first
   |with_reducible exact eH he
   |with_reducible exact fj he
   |(simp only[reduceCtorEq]at he;done)
   |(simp only[GE]at he;subst he;exact b9)
   |(simp only[GT]at he;obtain⟨_,_,he⟩:=he)
   |(simp only[Ha]at he;obtain⟨_,_,he⟩:=he;subst he;exact b9)
   |split at he)
 ·unfold jT at he
  repeat'(first
   |with_reducible exact eH he
   |with_reducible exact fj he
   |(simp only[reduceCtorEq]at he;done)
   |(simp only[GE]at he;subst he;exact b9)
   |(simp only[GT]at he;obtain⟨_,_,he⟩:=he)
   |(simp only[Ha]at he;obtain⟨_,_,he⟩:=he;subst he;exact b9)
   |split at he)
 ·unfold su at he
  repeat'(first
   |with_reducible exact eH he
   |with_reducible exact fj he
   |(simp only[reduceCtorEq]at he;done)
   |(simp only[GE]at he;subst he;exact b9)
   |(simp only[GT]at he;obtain⟨_,_,he⟩:=he)
   |(simp only[Ha]at he;obtain⟨_,_,he⟩:=he;subst he;exact b9)
   |split at he)
 ·unfold oS AW xA at he
  repeat'(first
   |with_reducible exact eH he
   |with_reducible exact fj he
   |(simp only[reduceCtorEq]at he;done)
   |(simp only[GE]at he;subst he;exact b9)
   |(simp only[GT]at he;obtain⟨_,_,he⟩:=he)
   |(simp only[Ha]at he;obtain⟨_,_,he⟩:=he;subst he;exact b9)
   |split at he)
 ·unfold qn at he
  repeat'(first
   |with_reducible exact eH he
   |with_reducible exact fj he
   |(simp only[reduceCtorEq]at he;done)
   |(simp only[GE]at he;subst he;exact b9)
   |(simp only[GT]at he;obtain⟨_,_,he⟩:=he)
   |(simp only[Ha]at he;obtain⟨_,_,he⟩:=he;subst he;exact b9)
   |split at he)
 ·exact eH he
 ·unfold oT at he
  repeat'(first
   |with_reducible exact eH he
   |with_reducible exact fj he
   |(simp only[reduceCtorEq]at he;done)
   |(simp only[GE]at he;subst he;exact b9)
   |(simp only[GT]at he;obtain⟨_,_,he⟩:=he)
   |(simp only[Ha]at he;obtain⟨_,_,he⟩:=he;subst he;exact b9)
   |split at he)
 ·split at he
  ·cases he
  ·unfold mX at he
   repeat'(first
    |with_reducible exact eH he
    |with_reducible exact fj he
    |(simp only[reduceCtorEq]at he;done)
    |(simp only[GE]at he;subst he;exact b9)
    |(simp only[GT]at he;obtain⟨_,_,he⟩:=he)
    |(simp only[Ha]at he;obtain⟨_,_,he⟩:=he;subst he;exact b9)
    |split at he)
 ·unfold nV at he
  repeat'(first
   |with_reducible exact eH he
   |with_reducible exact fj he
   |(simp only[reduceCtorEq]at he;done)
   |(simp only[GE]at he;subst he;exact b9)
   |(simp only[GT]at he;obtain⟨_,_,he⟩:=he)
   |(simp only[Ha]at he;obtain⟨_,_,he⟩:=he;subst he;exact b9)
   |split at he)
 ·unfold uM at he
  repeat'(first
   |with_reducible exact eH he
   |with_reducible exact fj he
   |(simp only[reduceCtorEq]at he;done)
   |(simp only[GE]at he;subst he;exact b9)
   |(simp only[GT]at he;obtain⟨_,_,he⟩:=he)
   |(simp only[Ha]at he;obtain⟨_,_,he⟩:=he;subst he;exact b9)
   |split at he)
 ·unfold k6 at he
  repeat'(first
   |with_reducible exact eH he
   |with_reducible exact fj he
   |(simp only[reduceCtorEq]at he;done)
   |(simp only[GE]at he;subst he;exact b9)
   |(simp only[GT]at he;obtain⟨_,_,he⟩:=he)
   |(simp only[Ha]at he;obtain⟨_,_,he⟩:=he;subst he;exact b9)
   |split at he)
 ·unfold qo at he
  repeat'(first
   |with_reducible exact eH he
   |with_reducible exact fj he
   |(simp only[reduceCtorEq]at he;done)
   |(simp only[GE]at he;subst he;exact b9)
   |(simp only[GT]at he;obtain⟨_,_,he⟩:=he)
   |(simp only[Ha]at he;obtain⟨_,_,he⟩:=he;subst he;exact b9)
   |split at he)
 ·unfold uL at he
  repeat'(first
   |with_reducible exact eH he
   |with_reducible exact fj he
   |(simp only[reduceCtorEq]at he;done)
   |(simp only[GE]at he;subst he;exact b9)
   |(simp only[GT]at he;obtain⟨_,_,he⟩:=he)
   |(simp only[Ha]at he;obtain⟨_,_,he⟩:=he;subst he;exact b9)
   |split at he)
 ·unfold sr at he
  repeat'(first
   |with_reducible exact eH he
   |with_reducible exact fj he
   |(simp only[reduceCtorEq]at he;done)
   |(simp only[GE]at he;subst he;exact b9)
   |(simp only[GT]at he;obtain⟨_,_,he⟩:=he)
   |(simp only[Ha]at he;obtain⟨_,_,he⟩:=he;subst he;exact b9)
   |split at he)
 ·unfold so at he
  repeat'(first
   |with_reducible exact eH he
   |with_reducible exact fj he
   |(simp only[reduceCtorEq]at he;done)
   |(simp only[GE]at he;subst he;exact b9)
   |(simp only[GT]at he;obtain⟨_,_,he⟩:=he)
   |(simp only[Ha]at he;obtain⟨_,_,he⟩:=he;subst he;exact b9)
   |split at he)
 ·unfold oU at he
  repeat'(first
   |with_reducible exact eH he
   |with_reducible exact fj he
   |(simp only[reduceCtorEq]at he;done)
   |(simp only[GE]at he;subst he;exact b9)
   |(simp only[GT]at he;obtain⟨_,_,he⟩:=he)
   |(simp only[Ha]at he;obtain⟨_,_,he⟩:=he;subst he;exact b9)
   |split at he)
 ·unfold oU at he
  repeat'(first
   |with_reducible exact eH he
   |with_reducible exact fj he
   |(simp only[reduceCtorEq]at he;done)
   |(simp only[GE]at he;subst he;exact b9)
   |(simp only[GT]at he;obtain⟨_,_,he⟩:=he)
   |(simp only[Ha]at he;obtain⟨_,_,he⟩:=he;subst he;exact b9)
   |split at he)
 ·rename_i c ho
  split at he
  ·unfold nW at he
   repeat'(first
    |with_reducible exact eH he
    |with_reducible exact fj he
    |(simp only[reduceCtorEq]at he;done)
    |(simp only[GE]at he;subst he;exact b9)
    |(simp only[GT]at he;obtain⟨_,_,he⟩:=he)
    |(simp only[Ha]at he;obtain⟨_,_,he⟩:=he;subst he;exact b9)
    |split at he)
  ·simp only[GT]at he
   obtain⟨e1,uY,qB⟩:=he
   refine ab8 qB ?_
   clear qB
   have he:=uY
   clear uY
   unfold kB ur uu k3 at he
   repeat'(first
    |with_reducible exact eH he
    |with_reducible exact fj he
    |(simp only[reduceCtorEq]at he;done)
    |(simp only[GE]at he;subst he;exact b9)
    |(simp only[GT]at he;obtain⟨_,_,he⟩:=he)
    |(simp only[Ha]at he;obtain⟨_,_,he⟩:=he;subst he;exact b9)
    |split at he)
  ·unfold sn at he
   repeat'(first
    |with_reducible exact eH he
    |with_reducible exact fj he
    |(simp only[reduceCtorEq]at he;done)
    |(simp only[GE]at he;subst he;exact b9)
    |(simp only[GT]at he;obtain⟨_,_,he⟩:=he)
    |(simp only[Ha]at he;obtain⟨_,_,he⟩:=he;subst he;exact b9)
    |split at he)
  ·repeat'(first
    |with_reducible exact eH he
    |with_reducible exact fj he
    |(simp only[reduceCtorEq]at he;done)
    |(simp only[GE]at he;subst he;exact b9)
    |(simp only[GT]at he;obtain⟨_,_,he⟩:=he)
    |(simp only[Ha]at he;obtain⟨_,_,he⟩:=he;subst he;exact b9)
    |split at he)
  ·repeat'(first
    |with_reducible exact eH he
    |with_reducible exact fj he
    |(simp only[reduceCtorEq]at he;done)
    |(simp only[GE]at he;subst he;exact b9)
    |(simp only[GT]at he;obtain⟨_,_,he⟩:=he)
    |(simp only[Ha]at he;obtain⟨_,_,he⟩:=he;subst he;exact b9)
    |split at he)
  ·rename_i bW hc
   split at he
   ·unfold mQ at he
    simp only[GT]at he
    obtain⟨x,_,he⟩:=he
    split at he
    ·cases he
    ·generalize(if dI C f o.dst=true then(if flat x.r=true then cI x.r else .aK)else x.r)=rr at he
     split at he
     ·simp only[GE]at he;subst he;exact b9
     ·cases he
   split at he
   ·unfold qp at he
    repeat'(first
     |with_reducible exact eH he
     |with_reducible exact fj he
     |(simp only[reduceCtorEq]at he;done)
     |(simp only[GE]at he;subst he;exact b9)
     |(simp only[GT]at he;obtain⟨_,_,he⟩:=he)
     |(simp only[Ha]at he;obtain⟨_,_,he⟩:=he;subst he;exact b9)
     |split at he)
   ·split at he
    ·split at he
     ·exact ab9 he
     ·cases he
    ·unfold mP at he
     split at he
     ·split at he
      ·unfold qS at he
       repeat'(first
        |(simp only[reduceCtorEq]at he;done)
        |(simp only[GE]at he;subst he;exact b9)
        |split at he)
      split at he
      ·split at he
       ·generalize(if dI C f o.dst=true then _ else _)=r' at he
        split at he
        ·cases he
        ·split at he
         ·simp only[GE]at he;subst he;exact b9
         ·cases he
       ·cases he
      ·cases he
     ·cases he
  ·cases he
 ·cases he
end
end Go.Ab
namespace Go.Ab
open Go
inductive kV(C:av)(f:FuncId)(call:FuncId→List U→Option (U×List U))(ops:Array Oper)(S:ah)(o:Oper):aJ→Prop|yes{e e':aJ}:nZ S ops o=some true→aR C f call S true o=some e→e'.rd=e.rd→e'.wr=e.wr→(e'=e∨∃v,e.cG=(put o v [] []).cG∧e'.cG=(put o (.cv true v) [] []).cG)→kV C f call ops S o e'|no{e':aJ}{x:U}:nZ S ops o=some false→e'.wr=[]→(x= .aK∨∃y,x= .cv false y)→e'.cG=(put o x [] []).cG→kV C f call ops S o e'
section
variable{C:av}{E:Env}{w:World}{S:ah}{a:Act}{β:Id→Option Loc}{F:Id→List Nat}
variable{next:Act→World→Prop}{Q:Exit→Act→World→Prop}
variable{f:FuncId}{call:FuncId→List U→Option (U×List U)}{ops:Array Oper}
theorem R.J9{I:Nat→Prop}{g:List Nat}{v:Value}{x:U}(h:R w I β g v (.cv false x)):v=undef:=by cases h;rfl
theorem DG{o:Oper}{e:aJ}(h:qm C f call S ops o=some e):kV C f call ops S o e:=by unfold qm at h;split at h;·{cases h};·rename_i g hg;split at h;·{rename_i hn;have:g=true:=by{simpa[nZ,hn]using hg.symm};subst this;exact .yes hg h rfl rfl (.inl rfl)};·split at h;·{rename_i e0 xZ;split at h;·{rename_i hw;simp only[GE]at h;subst h;rcases GP xZ with⟨v,hv⟩|⟨hne,_⟩;·{cases g with|true=>(refine .yes hg xZ rfl rfl (.inr ⟨v,hv, ?_⟩);simp only[hv,put];cases o.dst<;>rfl)|false=>refine .no (x:= .cv false v) hg (by simpa using hw) (.inr ⟨v,rfl⟩) ?_;simp only[hv,put];cases o.dst<;>rfl};·exact absurd (by simpa using hw) hne};·cases g with|true=>(simp only[if_true,GE]at h;subst h;exact .yes hg xZ rfl rfl (.inl rfl))|false=>simp only[Hb,if_false,GE]at h;subst h;exact .no hg rfl (.inr ⟨_,rfl⟩) rfl};·cases g with|true=>(simp at h)|false=>simp only[Hb,if_false,GE]at h;subst h;exact .no hg rfl (.inr ⟨_,rfl⟩) rfl
theorem NW(h:ax C E w S a β F){o:Oper}{g:Bool}(hg:nZ S ops o=some g):Region.wanted o (yielded ops a.tmps)=g:=by unfold nZ at hg;unfold Region.wanted;cases hgd:o.guard with|none=>(simp[hgd]at hg;simp[hg])|some Fu=>obtain⟨j,want⟩:=Fu;simp only[hgd]at hg⊢;unfold yielded;cases hd:(ops[j]?).bind (·.dst)with|none=>(simp[hd]at hg)|some d=>simp only[hd]at hg;simp only[Option.bind_some];have hr:=h.slot d;have n8:∀b,a.tmps.getD d undef= .bool b→a.tmps[d]? =some (.bool b):=fun b hb=>by{rw[Hc]at hb;cases hx:a.tmps[d]? with|none=>(rw[hx]at hb;simp[undef]at hb)|some x=>rw[hx]at hb;simpa using hb};split at hg;·{rename_i b hb;rw[hb]at hr;rw[n8 b hr.e3.2];simpa using hg};·{rename_i g' b hb;rw[hb]at hr;simp only[GE]at hg;cases g' with|true=>(have:=(hr.Ka.2 rfl).e3.2;rw[n8 b this];simpa using hg)|false=>have hu:=hr.J9;have hnb:∀b,a.tmps[d]? ≠some (.bool b):=fun b hx=>by{rw[Hc,hx]at hu;simp[undef]at hu};have:g=false:=by{simpa using hg.symm};subst this;cases hx:a.tmps[d]? with|none=>(rfl)|some x=>cases x<;>first|rfl|exact absurd hx (hnb _)};·{rename_i x hb;rw[hb]at hr;have hu:=hr.J9;have hnb:∀b,a.tmps[d]? ≠some (.bool b):=fun b hx=>by{rw[Hc,hx]at hu;simp[undef]at hu};have:g=false:=by{simpa using hg.symm};subst this;cases hx:a.tmps[d]? with|none=>(rfl)|some x=>cases x<;>first|rfl|exact absurd hx (hnb _)};·cases hg
theorem ZS(hN:iq C)(cS:∀k as r,call k as=some r→Sound C k as r)(h:ax C E w S a β F){o:Oper}{e:aJ}(he:kV C f call ops S o e)(hd:bV S e)(hn:∀a' w',aO C E (S.app e) a' w'→next a' w'):if Region.wanted o (yielded ops a.tmps)then o.wp C.P a w next Q else next (a.put o.dst undef) w:=by cases he with| @yes e0 _ hg hop hrd hwr mg=>(rw[NW h hg,AC rfl];rcases mg with rfl|⟨v,hv,vk⟩;·{exact BY hN cS h hop hd hn};·have Ez:bV S e0:=by{unfold bV at hd⊢;rw[hv];rw[vk]at hd;cases aP:o.dst<;>simp[put,aP]at hd⊢;exact hd};refine BY hN cS h hop Ez fun a' w' hx=>hn a' w' ?_;obtain⟨β',F',hx⟩:=hx;refine⟨β',F', ?_⟩;cases aP:o.dst with|none=>(have e1:S.app e=S.app e0:=by{simp[ah.app,hv,vk,hwr,put,aP]};rw[e1];exact hx)|some d=>have hs:=hx.slot d;have e2:(S.app e0).t d=v:=by{simp[ah.app,hv,put,aP,cm,ai]};rw[e2]at hs;have:=hx.Nx d (.nc hs);have e1:S.app e=⟨(S.app e0).n,ai (S.app e0).t d (.cv true v),(S.app e0).h⟩:=by{simp only[ah.app,hv,vk,hwr,put,aP,cm,ah.mk.injEq,true_and,and_true];funext t;simp only[ai];split<;>rfl};rw[e1];exact this)| @no _ x hg hwr hx mg=>rw[NW h hg];simp only[Hb,if_false];refine hn _ _ ⟨β,F, ?_⟩;have e1:S.app e=S.app (put o x [] []):=by{simp[ah.app,mg,hwr,put]};rw[e1];have Ez:bV S (put o x [] []):=by{unfold bV at hd⊢;rw[mg]at hd;exact hd};refine h.val o [] ?_ Ez;rcases hx with rfl|⟨y,rfl⟩;·{exact .aK};·exact .mZ
theorem adb{P:Program}{o:Oper}{next next':Act→World→Prop}(h:o.wp P a w next Q)(hn:∀a' w' v,a'.tmps=(a.put o.dst v).tmps→next a' w'→next' a' w'):o.wp P a w next' Q:=by unfold Oper.wp at h⊢;cases hr:(execOp a.eval o).run P w with|ok x w1=>(rw[hr]at h;cases x with|value v=>(exact hn _ _ v rfl h)|skip=>(exact hn _ _ undef rfl h)|defer d=>(exact hn _ _ undef (by cases o.dst<;>rfl) h)|enter f args=>(simp only[Oper.upon]at h⊢;refine h.mono fun e w'' hh=> ?_;cases e with|returned v=>(exact hn _ _ v rfl hh)|_=>exact hh)|row r args=>(exact Rows.mono h fun v w'' hh=>hn _ _ v rfl hh)|_=>exact h)|halt x w1=>rw[hr]at h;cases x<;>exact h
def ua(K:Act→Prop)(ops:Array Oper):Prop:=∀(i:Nat)(o:Oper),ops[i]? =some o→∀a a' v,K a→a'.tmps=(a.put o.dst v).tmps→K a'
theorem F3{K:Act→Prop}(hN:iq C)(cS:∀k as r,call k as=some r→Sound C k as r)(h:ax C E w S a β F){o:Oper}{e:aJ}(he:kV C f call ops S o e)(hd:bV S e)(hk:∀a' v,a'.tmps=(a.put o.dst v).tmps→K a')(hn:∀a' w',aO C E (S.app e) a' w'→K a'→next a' w'):if Region.wanted o (yielded ops a.tmps)then o.wp C.P a w next Q else next (a.put o.dst undef) w:=by have:=ZS (Q:=Q) (next:=aO C E (S.app e)) hN cS h he hd (fun _ _ h=>h);split at this;·{rename_i hw;rw[AC hw];exact adb this fun a' w' v e h=>hn _ _ h (hk _ v e)};·rename_i hw;rw[Do hw];exact hn _ _ this (hk _ undef rfl)
theorem Mf{K:Act→Prop}(ld:ua K ops)(hN:iq C)(cS:∀k as r,call k as=some r→Sound C k as r):∀(l:List Oper)(i:Nat){S S':ah}{ks:List gV}{a:Act}{w:World},(∀j,l[j]? =ops[i+j]?)→jw C f call ops i l S=some (S',ks)→aO C E S a w→K a→(∀a' w',aO C E S' a' w'→K a'→Q .normal a' w')→wpOps C.P ops Q (List.range' i l.length) a w|[],i,S,S',ks,a,w,_,h,hS,hK,hq=>by{simp[jw]at h;obtain⟨rfl,_⟩:=h;exact hq _ _ hS hK}|o::l,i,S,S',ks,a,w,hl,h,hS,hK,hq=>by have h0:ops[i]? =some o:=by{simpa using(hl 0).symm};simp only[jw,GT]at h;obtain⟨e,he,h⟩:=h;split at h;·{rename_i hd;obtain⟨⟨aT,k1⟩,h1,h2⟩:=Option.map_eq_some_iff.1 h;simp only[Prod.mk.injEq]at h2;obtain⟨rfl,_⟩:=h2;obtain⟨β,F,hS⟩:=hS;rw[List.length_cons,List.range'_succ,wpOps_cons];unfold wpOp;simp only[h0];have:=F3 (Q:=Q) (K:=K) (next:=wpOps C.P ops Q (List.range' (i+1) l.length)) hN cS hS (DG he) hd (fun a' v e=>ld i o h0 a a' v hK e) fun a' w' hx hk=>Mf ld hN cS l (i+1) (fun j=>by have:=hl (j+1);simpa[Nat.add_assoc,Nat.add_comm 1 j]using this) h1 hx hk hq;split at this;·{rename_i hw;simp only[hw,if_true];exact .inl this};·rename_i hw;simp only[hw];exact this};·cases h
end
end Go.Ab
