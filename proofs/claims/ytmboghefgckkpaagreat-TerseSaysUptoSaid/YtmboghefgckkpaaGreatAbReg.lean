import Derived.Test.YtmboghefgckkpaaGreatAbGr
namespace Go.Ab
open Go
section
variable{C:aU}{E:Env}{w:World}{S:an}{a:Act}{β:Id→Option Loc}{F:Id→List Nat}
variable{next:Act→World→Prop}{Q:Exit→Act→World→Prop}
theorem Kw(bA:lJ C){f:FuncId}{call:FuncId→List aa→Option (aa×List aa)}(eY:∀k as r,call k as=some r→Sound C k as r)(h:aV C E w S a β F){o:Oper}{e:bE}(he:bN C f call S true o=some e)(hd:cQ S e)(hn:∀a' w',bO C E (S.app e) a' w'→next a' w'):o.wp C.P a w next Q:=by unfold bN at he;split at he;·{rename_i x ho;exact VB h (.inl ho) he hd hn};·{rename_i x ho;exact VB h (.inr ho) he hd hn};·{rename_i c x y ho;exact akC h ho he hd hn};·{rename_i t ho;exact aj4 h ho he hd hn};·{rename_i t x ho;exact aj9 h ho he hd hn};·{rename_i t p ho;exact aka h ho he hd hn};·{rename_i t n p ho;exact akc h ho he hd hn};·{rename_i t x ho;exact akv h ho he hd hn};·{rename_i t x y ho;exact akF h ho he hd hn};·{rename_i x ho;exact akB h ho he hd hn};·{rename_i ho;exact aj7 h ho he hd hn};·{rename_i ho;exact akG h ho he hd hn};·{rename_i ho;exact akh h ho he hd hn};·{rename_i ho;exact akq h ho he hd hn};·{rename_i ho;exact akz h ho he hd hn};·{rename_i ho;exact aky h ho he hd hn};·{rename_i t x lo hi mx ho;cases mx with|none=>(exact ok_slice h ho (by simpa using he) hd hn)|some m=>simp at he};·{rename_i ho;exact akn h ho he hd hn};·{rename_i ho;exact akm h ho he hd hn};·{rename_i ho;exact aks h ho he hd hn};·{rename_i ho;exact akr h ho he hd hn};·{rename_i ho;exact akl h ho he hd hn};·{rename_i ho;exact akA h ho he hd hn};·{rename_i ho;exact akx h ho he hd hn};·{rename_i ho;exact VA h (.inl ho) he hd hn};·{rename_i ho;exact VA h (.inr ho) he hd hn};·{rename_i c ho;split at he;·{rename_i hc;exact aku h ho hc he hd hn};·{rename_i hc;exact aj5 h ho hc he hd hn};·{rename_i hc;exact akj h ho hc he hd hn};·{rename_i hc;split at he;·{rename_i vs hv;exact VD h ho hc _ (fun _ _=>rfl) hv he hd hn};·cases he};·{rename_i hc;split at he;·{rename_i vs hv;exact VD h ho hc _ (fun _ _=>rfl) hv he hd hn};·cases he};·{rename_i cS hc;split at he;·{rename_i x ey;exact akf bA.no h ho hc eY ey he hd hn};·rename_i ey;split at he;·{rename_i p hp;unfold pathOf at hp;split at hp;·{exact akt bA.no h ho hc (bA.path _ _ hp) he hd hn};·cases hp};·split at he;·{split at he;·{rename_i k;refine akg bA.no h ho hc eY ?_ he hd hn;simp only[an.get,un,oK]at ey;split at ey;·{cases ey};·rename_i hg;simpa using hg};·cases he};·exact ake bA.no bA.look h ho hc eY ey he hd hn};·cases he};·cases he
/-! ### What an operation writes among the slots -/
def Shaped(C:aU)(f:FuncId)(o:Oper)(e:bE):Prop:=(∃v,e.ek=(put o v [] []).ek)∨(e.wr≠[]∧∀x∈e.ek,x.1∈sV C f o)
theorem dn{C:aU}{f:FuncId}{o:Oper}{v:aa}{rd:List Id}{wr:List (Id×Option Rows)}:Shaped C f o (put o v rd wr):= .inl ⟨v,rfl⟩
theorem gm{C:aU}{f:FuncId}{o:Oper}{v:aa}{e:bE}(h:ret o v=some e):Shaped C f o e:=by have:=iu h;subst this;exact dn
theorem hH{C:aU}{f:FuncId}{o:Oper}{v:Option Value}{e:bE}(h:mR o v=some e):Shaped C f o e:=by unfold mR at h;split at h;·{split at h;·{exact gm h};·cases h};·cases h
theorem amW{C:aU}{f:FuncId}{o:Oper}{e1 e:bE}(h:sq C f o e1=some e)(h1:Shaped C f o e1):Shaped C f o e:=by unfold sq at h;split at h;·{split at h;·{split at h;·{simp only[Option.some.injEq]at h;subst h;exact dn};·cases h};·{split at h;·{simp only[Option.some.injEq]at h;subst h;exact dn};·cases h};·cases h};·simp only[Option.some.injEq]at h;subst h;exact h1
theorem amX{C:aU}{f:FuncId}{call:FuncId→List aa→Option (aa×List aa)}{S:an}{o:Oper}{e:bE}{k:FuncId}{args:List aa}(he:tr C f call S o k args=some e):Shaped C f o e:=by unfold tr at he;split at he;·{split at he;·{generalize(if fc C f o.dst=true then _ else _)=r' at he;split at he;·{split at he;·{simp only[Option.some.injEq]at he;subst he;exact dn};·cases he};·cases he};·cases he};·cases he
theorem Pf{C:aU}{f:FuncId}{call:FuncId→List aa→Option (aa×List aa)}{S:an}{g:Bool}{o:Oper}{e:bE}(he:bN C f call S g o=some e):Shaped C f o e:=by
 unfold bN at he
 split at he
 ·exact gm he
 ·exact gm he
 ·unfold wQ at he
  repeat'(first
   |with_reducible exact gm he
   |with_reducible exact hH he
   |(simp only[reduceCtorEq]at he;done)
   |(simp only[Option.some.injEq]at he;subst he;exact dn)
   |(simp only[Option.bind_eq_some_iff]at he;obtain⟨_,_,he⟩:=he)
   |(simp only[Option.map_eq_some_iff]at he;obtain⟨_,_,he⟩:=he;subst he;exact dn)
   |split at he)
 ·unfold sg at he
  repeat'(first
   |with_reducible exact gm he
   |with_reducible exact hH he
   |(simp only[reduceCtorEq]at he;done)
   |(simp only[Option.some.injEq]at he;subst he;exact dn)
   |(simp only[Option.bind_eq_some_iff]at he;obtain⟨_,_,he⟩:=he)
   |(simp only[Option.map_eq_some_iff]at he;obtain⟨_,_,he⟩:=he;subst he;exact dn)
   |split at he)
 ·unfold si at he
  repeat'(first
   |with_reducible exact gm he
   |with_reducible exact hH he
   |(simp only[reduceCtorEq]at he;done)
   |(simp only[Option.some.injEq]at he;subst he;exact dn)
   |(simp only[Option.bind_eq_some_iff]at he;obtain⟨_,_,he⟩:=he)
   |(simp only[Option.map_eq_some_iff]at he;obtain⟨_,_,he⟩:=he;subst he;exact dn)
   |split at he)
 ·unfold wN at he
  repeat'(first
   |with_reducible exact gm he
   |with_reducible exact hH he
   |(simp only[reduceCtorEq]at he;done)
   |(simp only[Option.some.injEq]at he;subst he;exact dn)
   |(simp only[Option.bind_eq_some_iff]at he;obtain⟨_,_,he⟩:=he)
   |(simp only[Option.map_eq_some_iff]at he;obtain⟨_,_,he⟩:=he;subst he;exact dn)
   |split at he)
 ·unfold sj Fg vj at he
  repeat'(first
   |with_reducible exact gm he
   |with_reducible exact hH he
   |(simp only[reduceCtorEq]at he;done)
   |(simp only[Option.some.injEq]at he;subst he;exact dn)
   |(simp only[Option.bind_eq_some_iff]at he;obtain⟨_,_,he⟩:=he)
   |(simp only[Option.map_eq_some_iff]at he;obtain⟨_,_,he⟩:=he;subst he;exact dn)
   |split at he)
 ·unfold nN at he
  repeat'(first
   |with_reducible exact gm he
   |with_reducible exact hH he
   |(simp only[reduceCtorEq]at he;done)
   |(simp only[Option.some.injEq]at he;subst he;exact dn)
   |(simp only[Option.bind_eq_some_iff]at he;obtain⟨_,_,he⟩:=he)
   |(simp only[Option.map_eq_some_iff]at he;obtain⟨_,_,he⟩:=he;subst he;exact dn)
   |split at he)
 ·rename_i t ao x ho
  unfold p0 at he
  split at he
  ·split at he
   ·split at he
    ·cases he
    ·split at he
     ·obtain⟨r,_,he⟩:=Option.bind_eq_some_iff.1 he
      split at he
      ·split at he
       ·rename_i kC vD
        split at he
        ·rename_i hc
         simp only[Bool.and_eq_true,Option.isNone_iff_eq_none]at hc
         simp only[Option.some.injEq]at he;subst he
         refine .inr ⟨by simp,fun y hy=> ?_⟩
         obtain rfl:=List.mem_singleton.1 hy
         unfold sV
         simp[ho,vD]
        ·cases he
       ·split at he
        ·simp only[Option.some.injEq]at he;subst he;exact dn
        ·cases he
      ·cases he
     ·cases he
   ·cases he
  ·cases he
 ·unfold BD at he
  repeat'(first
   |with_reducible exact gm he
   |with_reducible exact hH he
   |(simp only[reduceCtorEq]at he;done)
   |(simp only[Option.some.injEq]at he;subst he;exact dn)
   |(simp only[Option.bind_eq_some_iff]at he;obtain⟨_,_,he⟩:=he)
   |(simp only[Option.map_eq_some_iff]at he;obtain⟨_,_,he⟩:=he;subst he;exact dn)
   |split at he)
 ·unfold tv at he
  repeat'(first
   |with_reducible exact gm he
   |with_reducible exact hH he
   |(simp only[reduceCtorEq]at he;done)
   |(simp only[Option.some.injEq]at he;subst he;exact dn)
   |(simp only[Option.bind_eq_some_iff]at he;obtain⟨_,_,he⟩:=he)
   |(simp only[Option.map_eq_some_iff]at he;obtain⟨_,_,he⟩:=he;subst he;exact dn)
   |split at he)
 ·unfold yP at he
  repeat'(first
   |with_reducible exact gm he
   |with_reducible exact hH he
   |(simp only[reduceCtorEq]at he;done)
   |(simp only[Option.some.injEq]at he;subst he;exact dn)
   |(simp only[Option.bind_eq_some_iff]at he;obtain⟨_,_,he⟩:=he)
   |(simp only[Option.map_eq_some_iff]at he;obtain⟨_,_,he⟩:=he;subst he;exact dn)
   |split at he)
 ·unfold yN Mf Fh at he
  repeat'(first
   |with_reducible exact gm he
   |with_reducible exact hH he
   |(simp only[reduceCtorEq]at he;done)
   |(simp only[Option.some.injEq]at he;subst he;exact dn)
   |(simp only[Option.bind_eq_some_iff]at he;obtain⟨_,_,he⟩:=he)
   |(simp only[Option.map_eq_some_iff]at he;obtain⟨_,_,he⟩:=he;subst he;exact dn)
   |split at he)
 ·unfold Jh at he
  repeat'(first
   |with_reducible exact gm he
   |with_reducible exact hH he
   |(simp only[reduceCtorEq]at he;done)
   |(simp only[Option.some.injEq]at he;subst he;exact dn)
   |(simp only[Option.bind_eq_some_iff]at he;obtain⟨_,_,he⟩:=he)
   |(simp only[Option.map_eq_some_iff]at he;obtain⟨_,_,he⟩:=he;subst he;exact dn)
   |split at he)
 ·exact gm he
 ·unfold vk at he
  repeat'(first
   |with_reducible exact gm he
   |with_reducible exact hH he
   |(simp only[reduceCtorEq]at he;done)
   |(simp only[Option.some.injEq]at he;subst he;exact dn)
   |(simp only[Option.bind_eq_some_iff]at he;obtain⟨_,_,he⟩:=he)
   |(simp only[Option.map_eq_some_iff]at he;obtain⟨_,_,he⟩:=he;subst he;exact dn)
   |split at he)
 ·split at he
  ·cases he
  ·unfold sn at he
   repeat'(first
    |with_reducible exact gm he
    |with_reducible exact hH he
    |(simp only[reduceCtorEq]at he;done)
    |(simp only[Option.some.injEq]at he;subst he;exact dn)
    |(simp only[Option.bind_eq_some_iff]at he;obtain⟨_,_,he⟩:=he)
    |(simp only[Option.map_eq_some_iff]at he;obtain⟨_,_,he⟩:=he;subst he;exact dn)
    |split at he)
 ·unfold tw at he
  repeat'(first
   |with_reducible exact gm he
   |with_reducible exact hH he
   |(simp only[reduceCtorEq]at he;done)
   |(simp only[Option.some.injEq]at he;subst he;exact dn)
   |(simp only[Option.bind_eq_some_iff]at he;obtain⟨_,_,he⟩:=he)
   |(simp only[Option.map_eq_some_iff]at he;obtain⟨_,_,he⟩:=he;subst he;exact dn)
   |split at he)
 ·unfold Jc at he
  repeat'(first
   |with_reducible exact gm he
   |with_reducible exact hH he
   |(simp only[reduceCtorEq]at he;done)
   |(simp only[Option.some.injEq]at he;subst he;exact dn)
   |(simp only[Option.bind_eq_some_iff]at he;obtain⟨_,_,he⟩:=he)
   |(simp only[Option.map_eq_some_iff]at he;obtain⟨_,_,he⟩:=he;subst he;exact dn)
   |split at he)
 ·unfold pW at he
  repeat'(first
   |with_reducible exact gm he
   |with_reducible exact hH he
   |(simp only[reduceCtorEq]at he;done)
   |(simp only[Option.some.injEq]at he;subst he;exact dn)
   |(simp only[Option.bind_eq_some_iff]at he;obtain⟨_,_,he⟩:=he)
   |(simp only[Option.map_eq_some_iff]at he;obtain⟨_,_,he⟩:=he;subst he;exact dn)
   |split at he)
 ·unfold BC at he
  repeat'(first
   |with_reducible exact gm he
   |with_reducible exact hH he
   |(simp only[reduceCtorEq]at he;done)
   |(simp only[Option.some.injEq]at he;subst he;exact dn)
   |(simp only[Option.bind_eq_some_iff]at he;obtain⟨_,_,he⟩:=he)
   |(simp only[Option.map_eq_some_iff]at he;obtain⟨_,_,he⟩:=he;subst he;exact dn)
   |split at he)
 ·unfold BB at he
  repeat'(first
   |with_reducible exact gm he
   |with_reducible exact hH he
   |(simp only[reduceCtorEq]at he;done)
   |(simp only[Option.some.injEq]at he;subst he;exact dn)
   |(simp only[Option.bind_eq_some_iff]at he;obtain⟨_,_,he⟩:=he)
   |(simp only[Option.map_eq_some_iff]at he;obtain⟨_,_,he⟩:=he;subst he;exact dn)
   |split at he)
 ·unfold vl at he
  repeat'(first
   |with_reducible exact gm he
   |with_reducible exact hH he
   |(simp only[reduceCtorEq]at he;done)
   |(simp only[Option.some.injEq]at he;subst he;exact dn)
   |(simp only[Option.bind_eq_some_iff]at he;obtain⟨_,_,he⟩:=he)
   |(simp only[Option.map_eq_some_iff]at he;obtain⟨_,_,he⟩:=he;subst he;exact dn)
   |split at he)
 ·unfold pX at he
  repeat'(first
   |with_reducible exact gm he
   |with_reducible exact hH he
   |(simp only[reduceCtorEq]at he;done)
   |(simp only[Option.some.injEq]at he;subst he;exact dn)
   |(simp only[Option.bind_eq_some_iff]at he;obtain⟨_,_,he⟩:=he)
   |(simp only[Option.map_eq_some_iff]at he;obtain⟨_,_,he⟩:=he;subst he;exact dn)
   |split at he)
 ·unfold pY at he
  repeat'(first
   |with_reducible exact gm he
   |with_reducible exact hH he
   |(simp only[reduceCtorEq]at he;done)
   |(simp only[Option.some.injEq]at he;subst he;exact dn)
   |(simp only[Option.bind_eq_some_iff]at he;obtain⟨_,_,he⟩:=he)
   |(simp only[Option.map_eq_some_iff]at he;obtain⟨_,_,he⟩:=he;subst he;exact dn)
   |split at he)
 ·unfold pY at he
  repeat'(first
   |with_reducible exact gm he
   |with_reducible exact hH he
   |(simp only[reduceCtorEq]at he;done)
   |(simp only[Option.some.injEq]at he;subst he;exact dn)
   |(simp only[Option.bind_eq_some_iff]at he;obtain⟨_,_,he⟩:=he)
   |(simp only[Option.map_eq_some_iff]at he;obtain⟨_,_,he⟩:=he;subst he;exact dn)
   |split at he)
 ·rename_i c ho
  split at he
  ·unfold tA at he
   repeat'(first
    |with_reducible exact gm he
    |with_reducible exact hH he
    |(simp only[reduceCtorEq]at he;done)
    |(simp only[Option.some.injEq]at he;subst he;exact dn)
    |(simp only[Option.bind_eq_some_iff]at he;obtain⟨_,_,he⟩:=he)
    |(simp only[Option.map_eq_some_iff]at he;obtain⟨_,_,he⟩:=he;subst he;exact dn)
    |split at he)
  ·simp only[Option.bind_eq_some_iff]at he
   obtain⟨e1,BQ,wX⟩:=he
   refine amW wX ?_
   clear wX
   have he:=BQ
   clear BQ
   unfold m7 Bj Bk m3 at he
   repeat'(first
    |with_reducible exact gm he
    |with_reducible exact hH he
    |(simp only[reduceCtorEq]at he;done)
    |(simp only[Option.some.injEq]at he;subst he;exact dn)
    |(simp only[Option.bind_eq_some_iff]at he;obtain⟨_,_,he⟩:=he)
    |(simp only[Option.map_eq_some_iff]at he;obtain⟨_,_,he⟩:=he;subst he;exact dn)
    |split at he)
  ·unfold yO at he
   repeat'(first
    |with_reducible exact gm he
    |with_reducible exact hH he
    |(simp only[reduceCtorEq]at he;done)
    |(simp only[Option.some.injEq]at he;subst he;exact dn)
    |(simp only[Option.bind_eq_some_iff]at he;obtain⟨_,_,he⟩:=he)
    |(simp only[Option.map_eq_some_iff]at he;obtain⟨_,_,he⟩:=he;subst he;exact dn)
    |split at he)
  ·repeat'(first
    |with_reducible exact gm he
    |with_reducible exact hH he
    |(simp only[reduceCtorEq]at he;done)
    |(simp only[Option.some.injEq]at he;subst he;exact dn)
    |(simp only[Option.bind_eq_some_iff]at he;obtain⟨_,_,he⟩:=he)
    |(simp only[Option.map_eq_some_iff]at he;obtain⟨_,_,he⟩:=he;subst he;exact dn)
    |split at he)
  ·repeat'(first
    |with_reducible exact gm he
    |with_reducible exact hH he
    |(simp only[reduceCtorEq]at he;done)
    |(simp only[Option.some.injEq]at he;subst he;exact dn)
    |(simp only[Option.bind_eq_some_iff]at he;obtain⟨_,_,he⟩:=he)
    |(simp only[Option.map_eq_some_iff]at he;obtain⟨_,_,he⟩:=he;subst he;exact dn)
    |split at he)
  ·rename_i cS hc
   split at he
   ·unfold r8 at he
    simp only[Option.bind_eq_some_iff]at he
    obtain⟨x,_,he⟩:=he
    split at he
    ·cases he
    ·generalize(if fc C f o.dst=true then(if flat x.r=true then eC x.r else .bH)else x.r)=rr at he
     split at he
     ·simp only[Option.some.injEq]at he;subst he;exact dn
     ·cases he
   split at he
   ·unfold wP at he
    repeat'(first
     |with_reducible exact gm he
     |with_reducible exact hH he
     |(simp only[reduceCtorEq]at he;done)
     |(simp only[Option.some.injEq]at he;subst he;exact dn)
     |(simp only[Option.bind_eq_some_iff]at he;obtain⟨_,_,he⟩:=he)
     |(simp only[Option.map_eq_some_iff]at he;obtain⟨_,_,he⟩:=he;subst he;exact dn)
     |split at he)
   ·split at he
    ·split at he
     ·exact amX he
     ·cases he
    ·unfold r7 at he
     split at he
     ·split at he
      ·unfold xy at he
       repeat'(first
        |(simp only[reduceCtorEq]at he;done)
        |(simp only[Option.some.injEq]at he;subst he;exact dn)
        |split at he)
      split at he
      ·split at he
       ·generalize(if fc C f o.dst=true then _ else _)=r' at he
        split at he
        ·cases he
        ·split at he
         ·simp only[Option.some.injEq]at he;subst he;exact dn
         ·cases he
       ·cases he
      ·cases he
     ·cases he
  ·cases he
 ·cases he
end
end Go.Ab
