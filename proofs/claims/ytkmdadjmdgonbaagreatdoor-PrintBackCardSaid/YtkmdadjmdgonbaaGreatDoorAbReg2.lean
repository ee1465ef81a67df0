import Derived.Test.YtkmdadjmdgonbaaGreatDoorAbGr
open Bool renaming true->bv,false->ci
open Option renaming some->ac,none->am
open Array renaming getD_eq_getD_getElem?->GE
open Bool renaming false_eq_true->Do
open Option renaming bind_eq_some_iff->A0,map_eq_some_iff->GT
open Option.some renaming injEq->AC
set_option linter.all false
namespace Go.Ab
open Go
section
variable{C:aH}{E:Env}{w:World}{S:ai}{a:Act}{β:Id->Option Loc}{F:Id->List Nat}
variable{next:Act->World->Prop}{Q:Exit->Act->World->Prop}
theorem Nh(hN:ke C){f:FuncId}{call:FuncId->List U->Option (U×List U)}(dj:∀k as r,call k as=ac r->Sound C k as r)(h:aW C E w S a β F){o:Oper}{e:bg}(he:bU C f call S bv o=ac e):gk C E S a w next Q e o:=by intro hd hn;unfold bU at he;split at he;·{rename_i x ho;exact TW h (.inl ho) he hd hn};·{rename_i x ho;exact TW h (.inr ho) he hd hn};·{rename_i c x y ho;exact aiG h ho he hd hn};·{rename_i t ho;exact ah5 h ho he hd hn};·{rename_i t x ho;exact aic h ho he hd hn};·{rename_i t p ho;exact aid h ho he hd hn};·{rename_i t n p ho;exact aif h ho he hd hn};·{rename_i t x ho;exact aiz h ho he hd hn};·{rename_i t x y ho;exact aiJ h ho he hd hn};·{rename_i x ho;exact aiF h ho he hd hn};·{rename_i ho;exact ah9 h ho he hd hn};·{rename_i ho;exact aiK h ho he hd hn};·{rename_i ho;exact aim h ho he hd hn};·{rename_i ho;exact aiu h ho he hd hn};·{rename_i ho;exact aiD h ho he hd hn};·{rename_i ho;exact aiC h ho he hd hn};·{rename_i t x lo hi mx ho;cases mx with|none=>(exact ok_slice h ho (by simpa using he) hd hn)|some m=>simp at he};·{rename_i ho;exact ais h ho he hd hn};·{rename_i ho;exact air h ho he hd hn};·{rename_i ho;exact aiw h ho he hd hn};·{rename_i ho;exact aiv h ho he hd hn};·{rename_i ho;exact aiq h ho he hd hn};·{rename_i ho;exact ah8 h ho he hd hn};·{rename_i ho;exact aiE h ho he hd hn};·{rename_i ho;exact aiB h ho he hd hn};·{rename_i ho;exact TV h (.inl ho) he hd hn};·{rename_i ho;exact TV h (.inr ho) he hd hn};·{rename_i c ho;split at he;·{rename_i hc;exact aiy h ho hc he hd hn};·{rename_i hc;exact ah6 h ho hc he hd hn};·{rename_i hc;exact aio h ho hc he hd hn};·{rename_i hc;split at he;·{rename_i vs hv;exact T0 h ho hc _ (λ_ _=>rfl) hv he hd hn};·cases he};·{rename_i hc;split at he;·{rename_i vs hv;exact T0 h ho hc _ (λ_ _=>rfl) hv he hd hn};·cases he};·{rename_i cU hc;split at he;·{rename_i x ew;exact aij hN.no h ho hc dj ew he hd hn};·rename_i ew;split at he;·{rename_i p hp;unfold pathOf at hp;split at hp;·{exact aix hN.no h ho hc (hN.path _ _ hp) he hd hn};·cases hp};·split at he;·{split at he;·{rename_i k;refine ail hN.no h ho hc dj ?_ he hd hn;simp only[ai.get,un,mb]at ew;split at ew;·{cases ew};·rename_i hg;simpa using hg};·cases he};·exact aii hN.no hN.look h ho hc dj ew he hd hn};·cases he};·cases he
/-! ### What an operation writes among the slots -/
def Shaped(C:aH)(f:FuncId)(o:Oper)(e:bg):Prop:=(∃v,e.dY=(put o v [] []).dY)∨(e.wr≠[]∧∀x∈e.dY,x.1∈qH C f o)
theorem r5{C:aH}{f:FuncId}{o:Oper}{v:U}{rd:List Id}{wr:List (Id×Option Rows)}:Shaped C f o (put o v rd wr):= .inl ⟨v,rfl⟩
theorem IL{C:aH}{f:FuncId}{o:Oper}{v:U}{e:bg}(h:ret o v=ac e):Shaped C f o e:=by have:=ir h;subst this;exact r5
theorem NX{C:aH}{f:FuncId}{o:Oper}{v:Option Value}{e:bg}(h:mU o v=ac e):Shaped C f o e:=by unfold mU at h;split at h;·{split at h;·{exact IL h};·cases h};·cases h
theorem alf{C:aH}{f:FuncId}{o:Oper}{e1 e:bg}(h:q7 C f o e1=ac e)(h1:Shaped C f o e1):Shaped C f o e:=by unfold q7 at h;split at h;·{split at h;·{split at h;·{simp only[AC]at h;subst h;exact r5};·cases h};·{split at h;·{simp only[AC]at h;subst h;exact r5};·cases h};·cases h};·simp only[AC]at h;subst h;exact h1
theorem alg{C:aH}{f:FuncId}{call:FuncId->List U->Option (U×List U)}{S:ai}{o:Oper}{e:bg}{k:FuncId}{args:List U}(he:AB C f call S o k args=ac e):Shaped C f o e:=by cases he
theorem NY{C:aH}{f:FuncId}{call:FuncId->List U->Option (U×List U)}{S:ai}{g:Bool}{o:Oper}{e:bg}(he:bU C f call S g o=ac e):Shaped C f o e:=by
 unfold bU at he
 split at he
 all_goals try
  (try delta wg uv q2 vY q3 Dt ux mF Dw uw yo uy GX Du q4 uz q5 vZ AP o4 v7 AO GW at he
   repeat'(first
   |with_reducible exact IL he
   |with_reducible exact NX he
   |(simp only[reduceCtorEq]at he;done)
   |(simp only[AC]at he;subst he;exact r5)
   |(simp only[A0]at he;obtain⟨_,_,he⟩:=he)
   |(simp only[GT]at he;obtain⟨_,_,he⟩:=he;subst he;exact r5)
   |(simp[ym,yl,we,rN]at he;done)
   |split at he)
   done)
 ·rename_i t ao x ho
  unfold o6 at he
  split at he
  ·split at he
   ·split at he
    ·cases he
    ·split at he
     ·obtain⟨r,_,he⟩:=Option.bind_eq_some_iff.1 he
      split at he
      ·split at he
       ·rename_i ta uS
        split at he
        ·rename_i hc
         simp only[Bool.and_eq_true,Option.isNone_iff_eq_none]at hc
         simp only[AC]at he;subst he
         refine .inr ⟨by simp,λy hy=> ?_⟩
         obtain rfl:=List.mem_singleton.1 hy
         unfold qH
         simp[ho,uS]
        ·cases he
       ·split at he
        ·simp only[AC]at he;subst he;exact r5
        ·cases he
      ·cases he
     ·cases he
   ·cases he
  ·cases he
 ·rename_i c ho
  split at he
  all_goals try
   (try delta sH at he
    repeat'(first
    |with_reducible exact IL he
    |with_reducible exact NX he
    |(simp only[reduceCtorEq]at he;done)
    |(simp only[AC]at he;subst he;exact r5)
    |(simp[yj]at he;done)
    |split at he)
    done)
  ·simp only[A0]at he
   obtain⟨e1,A8,wv⟩:=he
   refine alf wv ?_
   clear wv
   have he:=A8
   clear A8
   unfold nq Ap Aq ow at he
   repeat'(first
    |with_reducible exact IL he
    |with_reducible exact NX he
    |(simp only[reduceCtorEq]at he;done)
    |(simp only[AC]at he;subst he;exact r5)
    |(simp only[A0]at he;obtain⟨_,_,he⟩:=he)
    |(simp only[GT]at he;obtain⟨_,_,he⟩:=he;subst he;exact r5)
    |split at he)
  ·rename_i cU hc
   split at he
   ·unfold p6 at he
    simp only[A0]at he
    obtain⟨x,_,he⟩:=he
    split at he
    ·cases he
    ·generalize(if gW C f o.dst=bv then(if flat x.r=bv then ff x.r else .aS)else x.r)=rr at he
     split at he
     ·simp only[AC]at he;subst he;exact r5
     ·cases he
   split at he
   ·simp[v8]at he
   ·split at he
    ·split at he
     ·exact alg he
     ·cases he
    ·unfold sA at he
     split at he
     ·split at he
      ·cases he
      split at he
      ·split at he
       ·generalize(if gW C f o.dst=bv then _ else _)=r' at he
        split at he
        ·cases he
        ·split at he
         ·simp only[AC]at he;subst he;exact r5
         ·cases he
       ·cases he
      ·cases he
     ·cases he
end
open Go
inductive j8(C:aH)(f:FuncId)(call:FuncId->List U->Option (U×List U))(ops:Array Oper)(S:ai)(o:Oper):bg->Prop|yes{e e':bg}:o9 S ops o=some true->bU C f call S true o=some e->e'.rd=e.rd->e'.wr=e.wr->(e'=e∨∃v,e.dY=(put o v [] []).dY∧e'.dY=(put o (.dO true v) [] []).dY)->j8 C f call ops S o e'|no{e':bg}{x:U}:o9 S ops o=some false->e'.wr=[]->(x= .aS∨∃y,x= .dO false y)->e'.dY=(put o x [] []).dY->j8 C f call ops S o e'
section
variable{C:aH}{E:Env}{w:World}{S:ai}{a:Act}{β:Id->Option Loc}{F:Id->List Nat}
variable{next:Act->World->Prop}{Q:Exit->Act->World->Prop}
variable{f:FuncId}{call:FuncId->List U->Option (U×List U)}{ops:Array Oper}
theorem R.RQ{I:Nat->Prop}{g:List Nat}{v:Value}{x:U}(h:R w I β g v (.dO ci x)):v=undef:=by cases h;rfl
theorem AI{o:Oper}{e:bg}(h:sG C f call S ops o=ac e):j8 C f call ops S o e:=by unfold sG at h;split at h;·{cases h};·rename_i g hg;split at h;·{rename_i hn;have:g=true:=by{simpa[o9,hn]using hg.symm};subst this;exact .yes hg h rfl rfl (.inl rfl)};·split at h;·{rename_i e0 DW;split at h;·{rename_i hw;simp only[AC]at h;subst h;rcases NY DW with⟨v,hv⟩|⟨hne,_⟩;·{cases g with|true=>(refine .yes hg DW rfl rfl (.inr ⟨v,hv, ?_⟩);simp only[hv,put];cases o.dst<;>rfl)|false=>refine .no (x:= .dO ci v) hg (by simpa using hw) (.inr ⟨v,rfl⟩) ?_;simp only[hv,put];cases o.dst<;>rfl};·exact absurd (by simpa using hw) hne};·cases g with|true=>(simp only[if_true,AC]at h;subst h;exact .yes hg DW rfl rfl (.inl rfl))|false=>simp only[Do,if_false,AC]at h;subst h;exact .no hg rfl (.inr ⟨_,rfl⟩) rfl};·cases g with|true=>(simp at h)|false=>simp only[Do,if_false,AC]at h;subst h;exact .no hg rfl (.inr ⟨_,rfl⟩) rfl
theorem Od(h:aW C E w S a β F){o:Oper}{g:Bool}(hg:o9 S ops o=ac g):Region.wanted o (yielded ops a.tmps)=g:=by unfold o9 at hg;unfold Region.wanted;cases hgd:o.guard with|none=>(simp[hgd]at hg;simp[hg])|some Ml=>obtain⟨j,want⟩:=Ml;simp only[hgd]at hg|-;unfold yielded;cases hd:(ops[j]?).bind (·.dst)with|none=>(simp[hd]at hg)|some d=>simp only[hd]at hg;simp only[Option.bind_some];have hr:=h.slot d;have sV:∀b,a.tmps.getD d undef= .bool b->a.tmps[d]? =ac (.bool b):=λb hb=>by{rw[GE]at hb;cases hx:a.tmps[d]? with|none=>(rw[hx]at hb;simp[undef]at hb)|some x=>rw[hx]at hb;simpa using hb};split at hg;·{rename_i b hb;rw[hb]at hr;rw[sV b hr.iZ.2];simpa using hg};·{rename_i g' b hb;rw[hb]at hr;simp only[AC]at hg;cases g' with|true=>(have:=(hr.RR.2 rfl).iZ.2;rw[sV b this];simpa using hg)|false=>have hu:=hr.RQ;have hnb:∀b,a.tmps[d]? ≠ac (.bool b):=λb hx=>by{rw[GE,hx]at hu;simp[undef]at hu};have:g=false:=by{simpa using hg.symm};subst this;cases hx:a.tmps[d]? with|none=>(rfl)|some x=>cases x<;>first|rfl|exact absurd hx (hnb _)};·{rename_i x hb;rw[hb]at hr;have hu:=hr.RQ;have hnb:∀b,a.tmps[d]? ≠ac (.bool b):=λb hx=>by{rw[GE,hx]at hu;simp[undef]at hu};have:g=false:=by{simpa using hg.symm};subst this;cases hx:a.tmps[d]? with|none=>(rfl)|some x=>cases x<;>first|rfl|exact absurd hx (hnb _)};·cases hg
theorem aip(hN:ke C)(dj:∀k as r,call k as=ac r->Sound C k as r)(h:aW C E w S a β F){o:Oper}{e:bg}(he:j8 C f call ops S o e)(hd:fG S e)(hn:∀a' w',bW C E (S.app e) a' w'->next a' w'):if Region.wanted o (yielded ops a.tmps)then o.wp C.P a w next Q else next (a.put o.dst undef) w:=by cases he with| @yes e0 _ hg hop hrd hwr gM=>(rw[Od h hg,if_pos rfl];rcases gM with rfl|⟨v,hv,wE⟩;·{exact Nh hN dj h hop hd hn};·have Hq:fG S e0:=by{unfold fG at hd|-;rw[hv];rw[wE]at hd;cases bV:o.dst<;>simp[put,bV]at hd|-;exact hd};refine Nh hN dj h hop Hq λa' w' hx=>hn a' w' ?_;obtain⟨β',F',hx⟩:=hx;refine⟨β',F', ?_⟩;cases bV:o.dst with|none=>(have e1:S.app e=S.app e0:=by{simp[ai.app,hv,wE,hwr,put,bV]};rw[e1];exact hx)|some d=>have hs:=hx.slot d;have e2:(S.app e0).t d=v:=by{simp[ai.app,hv,put,bV,dM,av]};rw[e2]at hs;have:=hx.Vi d (.rf hs);have e1:S.app e=⟨(S.app e0).n,av (S.app e0).t d (.dO bv v),(S.app e0).h⟩:=by{simp only[ai.app,hv,wE,hwr,put,bV,dM,ai.mk.injEq,true_and,and_true];funext t;simp only[av];split<;>rfl};rw[e1];exact this)| @no _ x hg hwr hx gM=>rw[Od h hg];simp only[Do,if_false];refine hn _ _ ⟨β,F, ?_⟩;have e1:S.app e=S.app (put o x [] []):=by{simp[ai.app,gM,hwr,put]};rw[e1];have Hq:fG S (put o x [] []):=by{unfold fG at hd|-;rw[gM]at hd;exact hd};refine h.val o [] ?_ Hq;rcases hx with rfl|⟨y,rfl⟩;·{exact .aS};·exact .q9
theorem am0{P:Program}{o:Oper}{next next':Act->World->Prop}(h:o.wp P a w next Q)(hn:∀a' w' v,a'.tmps=(a.put o.dst v).tmps->next a' w'->next' a' w'):o.wp P a w next' Q:=by unfold Oper.wp at h|-;cases hr:(execOp a.eval o).run P w with|ok x w1=>(rw[hr]at h;cases x with|value v=>(exact hn _ _ v rfl h)|skip=>(exact hn _ _ undef rfl h)|defer d=>(exact hn _ _ undef (by cases o.dst<;>rfl) h)|enter f args=>(simp only[Oper.upon]at h|-;refine h.mono λe w'' hh=> ?_;cases e with|returned v=>(exact hn _ _ v rfl hh)|_=>exact hh)|row r args=>(exact Rows.mono h λv w'' hh=>hn _ _ v rfl hh)|_=>exact h)|halt x w1=>rw[hr]at h;cases x<;>exact h
def sj(K:Act->Prop)(ops:Array Oper):Prop:=∀(i:Nat)(o:Oper),ops[i]? =ac o->∀a a' v,K a->a'.tmps=(a.put o.dst v).tmps->K a'
theorem EP{K:Act->Prop}(hN:ke C)(dj:∀k as r,call k as=ac r->Sound C k as r)(h:aW C E w S a β F){o:Oper}{e:bg}(he:j8 C f call ops S o e)(hd:fG S e)(hk:∀a' v,a'.tmps=(a.put o.dst v).tmps->K a')(hn:∀a' w',bW C E (S.app e) a' w'->K a'->next a' w'):if Region.wanted o (yielded ops a.tmps)then o.wp C.P a w next Q else next (a.put o.dst undef) w:=by have:=aip (Q:=Q) (next:=bW C E (S.app e)) hN dj h he hd (λ_ _ h=>h);split at this;·{rename_i hw;rw[if_pos hw];exact am0 this λa' w' v e h=>hn _ _ h (hk _ v e)};·rename_i hw;rw[if_neg hw];exact hn _ _ this (hk _ undef rfl)
theorem TX{K:Act->Prop}(iQ:sj K ops)(hN:ke C)(dj:∀k as r,call k as=ac r->Sound C k as r):∀(l:List Oper)(i:Nat){S S':ai}{ks:List eD}{a:Act}{w:World},(∀j,l[j]? =ops[i+j]?)->l7 C f call ops i l S=ac (S',ks)->bW C E S a w->K a->(∀a' w',bW C E S' a' w'->K a'->Q .normal a' w')->wpOps C.P ops Q (List.range' i l.length) a w|[],i,S,S',ks,a,w,_,h,hS,hK,hq=>by{simp[l7]at h;obtain⟨rfl,_⟩:=h;exact hq _ _ hS hK}|o::l,i,S,S',ks,a,w,hl,h,hS,hK,hq=>by have h0:ops[i]? =ac o:=by{simpa using(hl 0).symm};simp only[l7,A0]at h;obtain⟨e,he,h⟩:=h;split at h;·{rename_i hd;obtain⟨⟨bJ,k1⟩,h1,h2⟩:=Option.map_eq_some_iff.1 h;simp only[Prod.mk.injEq]at h2;obtain⟨rfl,_⟩:=h2;obtain⟨β,F,hS⟩:=hS;rw[List.length_cons,List.range'_succ,wpOps_cons];unfold wpOp;simp only[h0];have:=EP (Q:=Q) (K:=K) (next:=wpOps C.P ops Q (List.range' (i+1) l.length)) hN dj hS (AI he) hd (λa' v e=>iQ i o h0 a a' v hK e) λa' w' hx hk=>TX iQ hN dj l (i+1) (λj=>by have:=hl (j+1);simpa[Nat.add_assoc,Nat.add_comm 1 j]using this) h1 hx hk hq;split at this;·{rename_i hw;simp only[hw,if_true];exact .inl this};·rename_i hw;simp only[hw];exact this};·cases h
end
end Go.Ab
