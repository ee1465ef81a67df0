import Derived.Test.YtbbhbdlljfffdaaGreatDoorAbGr
open Array renaming getD_eq_getD_getElem?→Hc
open Bool renaming false_eq_true→Hb
open Option renaming bind_eq_some_iff→GT,map_eq_some_iff→Ha
open Option.some renaming injEq→GE
set_option linter.all false
namespace Go.Ab
open Go
section
variable{C:aB}{E:Env}{w:World}{S:ah}{a:Act}{β:Id→Option Loc}{F:Id→List Nat}
variable{next:Act→World→Prop}{Q:Exit→Act→World→Prop}
theorem zX(hN:ia C){f:FuncId}{call:FuncId→List U→Option (U×List U)}(c6:∀k as r,call k as=some r→Sound C k as r)(h:aC C E w S a β F){o:Oper}{e:aT}(he:bn C f call S true o=some e)(hd:bT S e)(hn:∀a' w',aW C E (S.app e) a' w'→next a' w'):o.wp C.P a w next Q:=by unfold bn at he;split at he;·{rename_i x ho;exact JM h (.inl ho) he hd hn};·{rename_i x ho;exact JM h (.inr ho) he hd hn};·{rename_i c x y ho;exact WG h ho he hd hn};·{rename_i t ho;exact V7 h ho he hd hn};·{rename_i t x ho;exact Wc h ho he hd hn};·{rename_i t p ho;exact Wd h ho he hd hn};·{rename_i t n p ho;exact Wf h ho he hd hn};·{rename_i t x ho;exact Wy h ho he hd hn};·{rename_i t x y ho;exact WK h ho he hd hn};·{rename_i x ho;exact WE h ho he hd hn};·{rename_i ho;exact Wa h ho he hd hn};·{rename_i ho;exact WL h ho he hd hn};·{rename_i ho;exact Wk h ho he hd hn};·{rename_i ho;exact Wt h ho he hd hn};·{rename_i ho;exact WC h ho he hd hn};·{rename_i ho;exact WB h ho he hd hn};·{rename_i t x lo hi mx ho;cases mx with|none=>(exact ok_slice h ho (by simpa using he) hd hn)|some m=>simp at he};·{rename_i ho;exact Wq h ho he hd hn};·{rename_i ho;exact Wp h ho he hd hn};·{rename_i ho;exact Wv h ho he hd hn};·{rename_i ho;exact Wu h ho he hd hn};·{rename_i ho;exact Wo h ho he hd hn};·{rename_i ho;exact WD h ho he hd hn};·{rename_i ho;exact WA h ho he hd hn};·{rename_i ho;exact JL h (.inl ho) he hd hn};·{rename_i ho;exact JL h (.inr ho) he hd hn};·{rename_i c ho;split at he;·{rename_i hc;exact Wx h ho hc he hd hn};·{rename_i hc;exact V8 h ho hc he hd hn};·{rename_i hc;exact Wm h ho hc he hd hn};·{rename_i hc;split at he;·{rename_i vs hv;exact JO h ho hc _ (fun _ _=>rfl) hv he hd hn};·cases he};·{rename_i hc;split at he;·{rename_i vs hv;exact JO h ho hc _ (fun _ _=>rfl) hv he hd hn};·cases he};·{rename_i cj hc;split at he;·{rename_i x dm;exact Wi hN.no h ho hc c6 dm he hd hn};·rename_i dm;split at he;·{rename_i p hp;unfold pathOf at hp;split at hp;·{exact Ww hN.no h ho hc (hN.path _ _ hp) he hd hn};·cases hp};·split at he;·{split at he;·{rename_i k;refine Wj hN.no h ho hc c6 ?_ he hd hn;simp only[ah.get,un,kD]at dm;split at dm;·{cases dm};·rename_i hg;simpa using hg};·cases he};·exact Wh hN.no hN.look h ho hc c6 dm he hd hn};·cases he};·cases he
/-! ### What an operation writes among the slots -/
def Shaped(C:aB)(f:FuncId)(o:Oper)(e:aT):Prop:=(∃v,e.cO=(put o v [] []).cO)∨(e.wr≠[]∧∀x∈e.cO,x.1∈nk C f o)
theorem cr{C:aB}{f:FuncId}{o:Oper}{v:U}{rd:List Id}{wr:List (Id×Option Rows)}:Shaped C f o (put o v rd wr):= .inl ⟨v,rfl⟩
theorem eL{C:aB}{f:FuncId}{o:Oper}{v:U}{e:aT}(h:ret o v=some e):Shaped C f o e:=by have:=fD h;subst this;exact cr
theorem fm{C:aB}{f:FuncId}{o:Oper}{v:Option Value}{e:aT}(h:jn o v=some e):Shaped C f o e:=by unfold jn at h;split at h;·{split at h;·{exact eL h};·cases h};·cases h
theorem Ym{C:aB}{f:FuncId}{o:Oper}{e1 e:aT}(h:mM C f o e1=some e)(h1:Shaped C f o e1):Shaped C f o e:=by unfold mM at h;split at h;·{split at h;·{split at h;·{simp only[GE]at h;subst h;exact cr};·cases h};·{split at h;·{simp only[GE]at h;subst h;exact cr};·cases h};·cases h};·simp only[GE]at h;subst h;exact h1
theorem Yn{C:aB}{f:FuncId}{call:FuncId→List U→Option (U×List U)}{S:ah}{o:Oper}{e:aT}{k:FuncId}{args:List U}(he:nD C f call S o k args=some e):Shaped C f o e:=by unfold nD at he;split at he;·{split at he;·{generalize(if dS C f o.dst=true then _ else _)=r' at he;split at he;·{split at he;·{simp only[GE]at he;subst he;exact cr};·cases he};·cases he};·cases he};·cases he
theorem EB{C:aB}{f:FuncId}{call:FuncId→List U→Option (U×List U)}{S:ah}{g:Bool}{o:Oper}{e:aT}(he:bn C f call S g o=some e):Shaped C f o e:=by
 unfold bn at he
 split at he
 ·exact eL he
 ·exact eL he
 ·unfold pV at he
  repeat'(first
   |with_reducible exact eL he
   |with_reducible exact fm he
   |(simp only[reduceCtorEq]at he;done)
   |(simp only[GE]at he;subst he;exact cr)
   |(simp only[GT]at he;obtain⟨_,_,he⟩:=he)
   |(simp only[Ha]at he;obtain⟨_,_,he⟩:=he;subst he;exact cr)
   |split at he)
 ·unfold ou at he
  repeat'(first
   |with_reducible exact eL he
   |with_reducible exact fm he
   |(simp only[reduceCtorEq]at he;done)
   |(simp only[GE]at he;subst he;exact cr)
   |(simp only[GT]at he;obtain⟨_,_,he⟩:=he)
   |(simp only[Ha]at he;obtain⟨_,_,he⟩:=he;subst he;exact cr)
   |split at he)
 ·unfold mJ at he
  repeat'(first
   |with_reducible exact eL he
   |with_reducible exact fm he
   |(simp only[reduceCtorEq]at he;done)
   |(simp only[GE]at he;subst he;exact cr)
   |(simp only[GT]at he;obtain⟨_,_,he⟩:=he)
   |(simp only[Ha]at he;obtain⟨_,_,he⟩:=he;subst he;exact cr)
   |split at he)
 ·unfold pP at he
  repeat'(first
   |with_reducible exact eL he
   |with_reducible exact fm he
   |(simp only[reduceCtorEq]at he;done)
   |(simp only[GE]at he;subst he;exact cr)
   |(simp only[GT]at he;obtain⟨_,_,he⟩:=he)
   |(simp only[Ha]at he;obtain⟨_,_,he⟩:=he;subst he;exact cr)
   |split at he)
 ·unfold mK vp ow at he
  repeat'(first
   |with_reducible exact eL he
   |with_reducible exact fm he
   |(simp only[reduceCtorEq]at he;done)
   |(simp only[GE]at he;subst he;exact cr)
   |(simp only[GT]at he;obtain⟨_,_,he⟩:=he)
   |(simp only[Ha]at he;obtain⟨_,_,he⟩:=he;subst he;exact cr)
   |split at he)
 ·unfold iY at he
  repeat'(first
   |with_reducible exact eL he
   |with_reducible exact fm he
   |(simp only[reduceCtorEq]at he;done)
   |(simp only[GE]at he;subst he;exact cr)
   |(simp only[GT]at he;obtain⟨_,_,he⟩:=he)
   |(simp only[Ha]at he;obtain⟨_,_,he⟩:=he;subst he;exact cr)
   |split at he)
 ·rename_i t ao x ho
  unfold k4 at he
  split at he
  ·split at he
   ·split at he
    ·cases he
    ·split at he
     ·obtain⟨r,_,he⟩:=Option.bind_eq_some_iff.1 he
      split at he
      ·split at he
       ·rename_i ta oM
        split at he
        ·rename_i hc
         simp only[Bool.and_eq_true,Option.isNone_iff_eq_none]at hc
         simp only[GE]at he;subst he
         refine .inr ⟨by simp,fun y hy=> ?_⟩
         obtain rfl:=List.mem_singleton.1 hy
         unfold nk
         simp[ho,oM]
        ·cases he
       ·split at he
        ·simp only[GE]at he;subst he;exact cr
        ·cases he
      ·cases he
     ·cases he
   ·cases he
  ·cases he
 ·unfold vt at he
  repeat'(first
   |with_reducible exact eL he
   |with_reducible exact fm he
   |(simp only[reduceCtorEq]at he;done)
   |(simp only[GE]at he;subst he;exact cr)
   |(simp only[GT]at he;obtain⟨_,_,he⟩:=he)
   |(simp only[Ha]at he;obtain⟨_,_,he⟩:=he;subst he;exact cr)
   |split at he)
 ·unfold ov at he
  repeat'(first
   |with_reducible exact eL he
   |with_reducible exact fm he
   |(simp only[reduceCtorEq]at he;done)
   |(simp only[GE]at he;subst he;exact cr)
   |(simp only[GT]at he;obtain⟨_,_,he⟩:=he)
   |(simp only[Ha]at he;obtain⟨_,_,he⟩:=he;subst he;exact cr)
   |split at he)
 ·unfold q9 at he
  repeat'(first
   |with_reducible exact eL he
   |with_reducible exact fm he
   |(simp only[reduceCtorEq]at he;done)
   |(simp only[GE]at he;subst he;exact cr)
   |(simp only[GT]at he;obtain⟨_,_,he⟩:=he)
   |(simp only[Ha]at he;obtain⟨_,_,he⟩:=he;subst he;exact cr)
   |split at he)
 ·unfold ox yW vq at he
  repeat'(first
   |with_reducible exact eL he
   |with_reducible exact fm he
   |(simp only[reduceCtorEq]at he;done)
   |(simp only[GE]at he;subst he;exact cr)
   |(simp only[GT]at he;obtain⟨_,_,he⟩:=he)
   |(simp only[Ha]at he;obtain⟨_,_,he⟩:=he;subst he;exact cr)
   |split at he)
 ·unfold pS at he
  repeat'(first
   |with_reducible exact eL he
   |with_reducible exact fm he
   |(simp only[reduceCtorEq]at he;done)
   |(simp only[GE]at he;subst he;exact cr)
   |(simp only[GT]at he;obtain⟨_,_,he⟩:=he)
   |(simp only[Ha]at he;obtain⟨_,_,he⟩:=he;subst he;exact cr)
   |split at he)
 ·exact eL he
 ·unfold oy at he
  repeat'(first
   |with_reducible exact eL he
   |with_reducible exact fm he
   |(simp only[reduceCtorEq]at he;done)
   |(simp only[GE]at he;subst he;exact cr)
   |(simp only[GT]at he;obtain⟨_,_,he⟩:=he)
   |(simp only[Ha]at he;obtain⟨_,_,he⟩:=he;subst he;exact cr)
   |split at he)
 ·split at he
  ·cases he
  ·unfold mL at he
   repeat'(first
    |with_reducible exact eL he
    |with_reducible exact fm he
    |(simp only[reduceCtorEq]at he;done)
    |(simp only[GE]at he;subst he;exact cr)
    |(simp only[GT]at he;obtain⟨_,_,he⟩:=he)
    |(simp only[Ha]at he;obtain⟨_,_,he⟩:=he;subst he;exact cr)
    |split at he)
 ·unfold pQ at he
  repeat'(first
   |with_reducible exact eL he
   |with_reducible exact fm he
   |(simp only[reduceCtorEq]at he;done)
   |(simp only[GE]at he;subst he;exact cr)
   |(simp only[GT]at he;obtain⟨_,_,he⟩:=he)
   |(simp only[Ha]at he;obtain⟨_,_,he⟩:=he;subst he;exact cr)
   |split at he)
 ·unfold tf at he
  repeat'(first
   |with_reducible exact eL he
   |with_reducible exact fm he
   |(simp only[reduceCtorEq]at he;done)
   |(simp only[GE]at he;subst he;exact cr)
   |(simp only[GT]at he;obtain⟨_,_,he⟩:=he)
   |(simp only[Ha]at he;obtain⟨_,_,he⟩:=he;subst he;exact cr)
   |split at he)
 ·unfold k3 at he
  repeat'(first
   |with_reducible exact eL he
   |with_reducible exact fm he
   |(simp only[reduceCtorEq]at he;done)
   |(simp only[GE]at he;subst he;exact cr)
   |(simp only[GT]at he;obtain⟨_,_,he⟩:=he)
   |(simp only[Ha]at he;obtain⟨_,_,he⟩:=he;subst he;exact cr)
   |split at he)
 ·unfold pT at he
  repeat'(first
   |with_reducible exact eL he
   |with_reducible exact fm he
   |(simp only[reduceCtorEq]at he;done)
   |(simp only[GE]at he;subst he;exact cr)
   |(simp only[GT]at he;obtain⟨_,_,he⟩:=he)
   |(simp only[Ha]at he;obtain⟨_,_,he⟩:=he;subst he;exact cr)
   |split at he)
 ·unfold td at he
  repeat'(first
   |with_reducible exact eL he
   |with_reducible exact fm he
   |(simp only[reduceCtorEq]at he;done)
   |(simp only[GE]at he;subst he;exact cr)
   |(simp only[GT]at he;obtain⟨_,_,he⟩:=he)
   |(simp only[Ha]at he;obtain⟨_,_,he⟩:=he;subst he;exact cr)
   |split at he)
 ·unfold q8 at he
  repeat'(first
   |with_reducible exact eL he
   |with_reducible exact fm he
   |(simp only[reduceCtorEq]at he;done)
   |(simp only[GE]at he;subst he;exact cr)
   |(simp only[GT]at he;obtain⟨_,_,he⟩:=he)
   |(simp only[Ha]at he;obtain⟨_,_,he⟩:=he;subst he;exact cr)
   |split at he)
 ·unfold q7 at he
  repeat'(first
   |with_reducible exact eL he
   |with_reducible exact fm he
   |(simp only[reduceCtorEq]at he;done)
   |(simp only[GE]at he;subst he;exact cr)
   |(simp only[GT]at he;obtain⟨_,_,he⟩:=he)
   |(simp only[Ha]at he;obtain⟨_,_,he⟩:=he;subst he;exact cr)
   |split at he)
 ·unfold oz at he
  repeat'(first
   |with_reducible exact eL he
   |with_reducible exact fm he
   |(simp only[reduceCtorEq]at he;done)
   |(simp only[GE]at he;subst he;exact cr)
   |(simp only[GT]at he;obtain⟨_,_,he⟩:=he)
   |(simp only[Ha]at he;obtain⟨_,_,he⟩:=he;subst he;exact cr)
   |split at he)
 ·unfold oz at he
  repeat'(first
   |with_reducible exact eL he
   |with_reducible exact fm he
   |(simp only[reduceCtorEq]at he;done)
   |(simp only[GE]at he;subst he;exact cr)
   |(simp only[GT]at he;obtain⟨_,_,he⟩:=he)
   |(simp only[Ha]at he;obtain⟨_,_,he⟩:=he;subst he;exact cr)
   |split at he)
 ·rename_i c ho
  split at he
  ·unfold nH at he
   repeat'(first
    |with_reducible exact eL he
    |with_reducible exact fm he
    |(simp only[reduceCtorEq]at he;done)
    |(simp only[GE]at he;subst he;exact cr)
    |(simp only[GT]at he;obtain⟨_,_,he⟩:=he)
    |(simp only[Ha]at he;obtain⟨_,_,he⟩:=he;subst he;exact cr)
    |split at he)
  ·simp only[GT]at he
   obtain⟨e1,tA,p5⟩:=he
   refine Ym p5 ?_
   clear p5
   have he:=tA
   clear tA
   unfold jA sX sY kr at he
   repeat'(first
    |with_reducible exact eL he
    |with_reducible exact fm he
    |(simp only[reduceCtorEq]at he;done)
    |(simp only[GE]at he;subst he;exact cr)
    |(simp only[GT]at he;obtain⟨_,_,he⟩:=he)
    |(simp only[Ha]at he;obtain⟨_,_,he⟩:=he;subst he;exact cr)
    |split at he)
  ·unfold q6 at he
   repeat'(first
    |with_reducible exact eL he
    |with_reducible exact fm he
    |(simp only[reduceCtorEq]at he;done)
    |(simp only[GE]at he;subst he;exact cr)
    |(simp only[GT]at he;obtain⟨_,_,he⟩:=he)
    |(simp only[Ha]at he;obtain⟨_,_,he⟩:=he;subst he;exact cr)
    |split at he)
  ·repeat'(first
    |with_reducible exact eL he
    |with_reducible exact fm he
    |(simp only[reduceCtorEq]at he;done)
    |(simp only[GE]at he;subst he;exact cr)
    |(simp only[GT]at he;obtain⟨_,_,he⟩:=he)
    |(simp only[Ha]at he;obtain⟨_,_,he⟩:=he;subst he;exact cr)
    |split at he)
  ·repeat'(first
    |with_reducible exact eL he
    |with_reducible exact fm he
    |(simp only[reduceCtorEq]at he;done)
    |(simp only[GE]at he;subst he;exact cr)
    |(simp only[GT]at he;obtain⟨_,_,he⟩:=he)
    |(simp only[Ha]at he;obtain⟨_,_,he⟩:=he;subst he;exact cr)
    |split at he)
  ·rename_i cj hc
   split at he
   ·unfold mG at he
    simp only[GT]at he
    obtain⟨x,_,he⟩:=he
    split at he
    ·cases he
    ·generalize(if dS C f o.dst=true then(if flat x.r=true then cS x.r else .aU)else x.r)=rr at he
     split at he
     ·simp only[GE]at he;subst he;exact cr
     ·cases he
   split at he
   ·unfold pU at he
    repeat'(first
     |with_reducible exact eL he
     |with_reducible exact fm he
     |(simp only[reduceCtorEq]at he;done)
     |(simp only[GE]at he;subst he;exact cr)
     |(simp only[GT]at he;obtain⟨_,_,he⟩:=he)
     |(simp only[Ha]at he;obtain⟨_,_,he⟩:=he;subst he;exact cr)
     |split at he)
   ·split at he
    ·split at he
     ·exact Yn he
     ·cases he
    ·unfold nC at he
     split at he
     ·split at he
      ·unfold r8 at he
       repeat'(first
        |(simp only[reduceCtorEq]at he;done)
        |(simp only[GE]at he;subst he;exact cr)
        |split at he)
      split at he
      ·split at he
       ·generalize(if dS C f o.dst=true then _ else _)=r' at he
        split at he
        ·cases he
        ·split at he
         ·simp only[GE]at he;subst he;exact cr
         ·cases he
       ·cases he
      ·cases he
     ·cases he
  ·cases he
 ·cases he
end
end Go.Ab
namespace Go.Ab
open Go
inductive kR(C:aB)(f:FuncId)(call:FuncId→List U→Option (U×List U))(ops:Array Oper)(S:ah)(o:Oper):aT→Prop|yes{e e':aT}:nK S ops o=some true→bn C f call S true o=some e→e'.rd=e.rd→e'.wr=e.wr→(e'=e∨∃v,e.cO=(put o v [] []).cO∧e'.cO=(put o (.cF true v) [] []).cO)→kR C f call ops S o e'|no{e':aT}{x:U}:nK S ops o=some false→e'.wr=[]→(x= .aU∨∃y,x= .cF false y)→e'.cO=(put o x [] []).cO→kR C f call ops S o e'
section
variable{C:aB}{E:Env}{w:World}{S:ah}{a:Act}{β:Id→Option Loc}{F:Id→List Nat}
variable{next:Act→World→Prop}{Q:Exit→Act→World→Prop}
variable{f:FuncId}{call:FuncId→List U→Option (U×List U)}{ops:Array Oper}
theorem R.HQ{I:Nat→Prop}{g:List Nat}{v:Value}{x:U}(h:R w I β g v (.cF false x)):v=undef:=by cases h;rfl
theorem Bv{o:Oper}{e:aT}(h:pR C f call S ops o=some e):kR C f call ops S o e:=by unfold pR at h;split at h;·{cases h};·rename_i g hg;split at h;·{rename_i hn;have:g=true:=by{simpa[nK,hn]using hg.symm};subst this;exact .yes hg h rfl rfl (.inl rfl)};·split at h;·{rename_i e0 vT;split at h;·{rename_i hw;simp only[GE]at h;subst h;rcases EB vT with⟨v,hv⟩|⟨hne,_⟩;·{cases g with|true=>(refine .yes hg vT rfl rfl (.inr ⟨v,hv, ?_⟩);simp only[hv,put];cases o.dst<;>rfl)|false=>refine .no (x:= .cF false v) hg (by simpa using hw) (.inr ⟨v,rfl⟩) ?_;simp only[hv,put];cases o.dst<;>rfl};·exact absurd (by simpa using hw) hne};·cases g with|true=>(simp only[if_true,GE]at h;subst h;exact .yes hg vT rfl rfl (.inl rfl))|false=>simp only[Hb,if_false,GE]at h;subst h;exact .no hg rfl (.inr ⟨_,rfl⟩) rfl};·cases g with|true=>(simp at h)|false=>simp only[Hb,if_false,GE]at h;subst h;exact .no hg rfl (.inr ⟨_,rfl⟩) rfl
theorem Lm(h:aC C E w S a β F){o:Oper}{g:Bool}(hg:nK S ops o=some g):Region.wanted o (yielded ops a.tmps)=g:=by unfold nK at hg;unfold Region.wanted;cases hgd:o.guard with|none=>(simp[hgd]at hg;simp[hg])|some C6=>obtain⟨j,want⟩:=C6;simp only[hgd]at hg⊢;unfold yielded;cases hd:(ops[j]?).bind (·.dst)with|none=>(simp[hd]at hg)|some d=>simp only[hd]at hg;simp only[Option.bind_some];have hr:=h.slot d;have nP:∀b,a.tmps.getD d undef= .bool b→a.tmps[d]? =some (.bool b):=fun b hb=>by{rw[Hc]at hb;cases hx:a.tmps[d]? with|none=>(rw[hx]at hb;simp[undef]at hb)|some x=>rw[hx]at hb;simpa using hb};split at hg;·{rename_i b hb;rw[hb]at hr;rw[nP b hr.e6.2];simpa using hg};·{rename_i g' b hb;rw[hb]at hr;simp only[GE]at hg;cases g' with|true=>(have:=(hr.HR.2 rfl).e6.2;rw[nP b this];simpa using hg)|false=>have hu:=hr.HQ;have hnb:∀b,a.tmps[d]? ≠some (.bool b):=fun b hx=>by{rw[Hc,hx]at hu;simp[undef]at hu};have:g=false:=by{simpa using hg.symm};subst this;cases hx:a.tmps[d]? with|none=>(rfl)|some x=>cases x<;>first|rfl|exact absurd hx (hnb _)};·{rename_i x hb;rw[hb]at hr;have hu:=hr.HQ;have hnb:∀b,a.tmps[d]? ≠some (.bool b):=fun b hx=>by{rw[Hc,hx]at hu;simp[undef]at hu};have:g=false:=by{simpa using hg.symm};subst this;cases hx:a.tmps[d]? with|none=>(rfl)|some x=>cases x<;>first|rfl|exact absurd hx (hnb _)};·cases hg
theorem Wn(hN:ia C)(c6:∀k as r,call k as=some r→Sound C k as r)(h:aC C E w S a β F){o:Oper}{e:aT}(he:kR C f call ops S o e)(hd:bT S e)(hn:∀a' w',aW C E (S.app e) a' w'→next a' w'):if Region.wanted o (yielded ops a.tmps)then o.wp C.P a w next Q else next (a.put o.dst undef) w:=by cases he with| @yes e0 _ hg hop hrd hwr l9=>(rw[Lm h hg,AC rfl];rcases l9 with rfl|⟨v,hv,tO⟩;·{exact zX hN c6 h hop hd hn};·have Ce:bT S e0:=by{unfold bT at hd⊢;rw[hv];rw[tO]at hd;cases aY:o.dst<;>simp[put,aY]at hd⊢;exact hd};refine zX hN c6 h hop Ce fun a' w' hx=>hn a' w' ?_;obtain⟨β',F',hx⟩:=hx;refine⟨β',F', ?_⟩;cases aY:o.dst with|none=>(have e1:S.app e=S.app e0:=by{simp[ah.app,hv,tO,hwr,put,aY]};rw[e1];exact hx)|some d=>have hs:=hx.slot d;have e2:(S.app e0).t d=v:=by{simp[ah.app,hv,put,aY,cv,ai]};rw[e2]at hs;have:=hx.K2 d (.mP hs);have e1:S.app e=⟨(S.app e0).n,ai (S.app e0).t d (.cF true v),(S.app e0).h⟩:=by{simp only[ah.app,hv,tO,hwr,put,aY,cv,ah.mk.injEq,true_and,and_true];funext t;simp only[ai];split<;>rfl};rw[e1];exact this)| @no _ x hg hwr hx l9=>rw[Lm h hg];simp only[Hb,if_false];refine hn _ _ ⟨β,F, ?_⟩;have e1:S.app e=S.app (put o x [] []):=by{simp[ah.app,l9,hwr,put]};rw[e1];have Ce:bT S (put o x [] []):=by{unfold bT at hd⊢;rw[l9]at hd;exact hd};refine h.val o [] ?_ Ce;rcases hx with rfl|⟨y,rfl⟩;·{exact .aU};·exact .mO
theorem YV{P:Program}{o:Oper}{next next':Act→World→Prop}(h:o.wp P a w next Q)(hn:∀a' w' v,a'.tmps=(a.put o.dst v).tmps→next a' w'→next' a' w'):o.wp P a w next' Q:=by unfold Oper.wp at h⊢;cases hr:(execOp a.eval o).run P w with|ok x w1=>(rw[hr]at h;cases x with|value v=>(exact hn _ _ v rfl h)|skip=>(exact hn _ _ undef rfl h)|defer d=>(exact hn _ _ undef (by cases o.dst<;>rfl) h)|enter f args=>(simp only[Oper.upon]at h⊢;refine h.mono fun e w'' hh=> ?_;cases e with|returned v=>(exact hn _ _ v rfl hh)|_=>exact hh)|row r args=>(exact Rows.mono h fun v w'' hh=>hn _ _ v rfl hh)|_=>exact h)|halt x w1=>rw[hr]at h;cases x<;>exact h
def sM(K:Act→Prop)(ops:Array Oper):Prop:=∀(i:Nat)(o:Oper),ops[i]? =some o→∀a a' v,K a→a'.tmps=(a.put o.dst v).tmps→K a'
theorem Dz{K:Act→Prop}(hN:ia C)(c6:∀k as r,call k as=some r→Sound C k as r)(h:aC C E w S a β F){o:Oper}{e:aT}(he:kR C f call ops S o e)(hd:bT S e)(hk:∀a' v,a'.tmps=(a.put o.dst v).tmps→K a')(hn:∀a' w',aW C E (S.app e) a' w'→K a'→next a' w'):if Region.wanted o (yielded ops a.tmps)then o.wp C.P a w next Q else next (a.put o.dst undef) w:=by have:=Wn (Q:=Q) (next:=aW C E (S.app e)) hN c6 h he hd (fun _ _ h=>h);split at this;·{rename_i hw;rw[AC hw];exact YV this fun a' w' v e h=>hn _ _ h (hk _ v e)};·rename_i hw;rw[Do hw];exact hn _ _ this (hk _ undef rfl)
theorem JN{K:Act→Prop}(k8:sM K ops)(hN:ia C)(c6:∀k as r,call k as=some r→Sound C k as r):∀(l:List Oper)(i:Nat){S S':ah}{ks:List gS}{a:Act}{w:World},(∀j,l[j]? =ops[i+j]?)→jB C f call ops i l S=some (S',ks)→aW C E S a w→K a→(∀a' w',aW C E S' a' w'→K a'→Q .normal a' w')→wpOps C.P ops Q (List.range' i l.length) a w|[],i,S,S',ks,a,w,_,h,hS,hK,hq=>by{simp[jB]at h;obtain⟨rfl,_⟩:=h;exact hq _ _ hS hK}|o::l,i,S,S',ks,a,w,hl,h,hS,hK,hq=>by have h0:ops[i]? =some o:=by{simpa using(hl 0).symm};simp only[jB,GT]at h;obtain⟨e,he,h⟩:=h;split at h;·{rename_i hd;obtain⟨⟨aZ,k1⟩,h1,h2⟩:=Option.map_eq_some_iff.1 h;simp only[Prod.mk.injEq]at h2;obtain⟨rfl,_⟩:=h2;obtain⟨β,F,hS⟩:=hS;rw[List.length_cons,List.range'_succ,wpOps_cons];unfold wpOp;simp only[h0];have:=Dz (Q:=Q) (K:=K) (next:=wpOps C.P ops Q (List.range' (i+1) l.length)) hN c6 hS (Bv he) hd (fun a' v e=>k8 i o h0 a a' v hK e) fun a' w' hx hk=>JN k8 hN c6 l (i+1) (fun j=>by have:=hl (j+1);simpa[Nat.add_assoc,Nat.add_comm 1 j]using this) h1 hx hk hq;split at this;·{rename_i hw;simp only[hw,if_true];exact .inl this};·rename_i hw;simp only[hw];exact this};·cases h
end
end Go.Ab
