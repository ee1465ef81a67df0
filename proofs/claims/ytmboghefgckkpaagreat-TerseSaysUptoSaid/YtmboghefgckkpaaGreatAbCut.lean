import Derived.Test.YtmboghefgckkpaaGreatAbDraw
import Derived.Test.YtmboghefgckkpaaGreatAbWeak
namespace Go.Ab
open Go
section
variable{C:aU}{E:Env}{w:World}{S:an}{a:Act}{β:Id→Option Loc}{F:Id→List Nat}
variable{f:FuncId}{call:FuncId→List aa→Option (aa×List aa)}
theorem OI(h:aV C E w S a β F):∀{slots:List Nat}{x},kr S.h S.t slots=some x→
  ∃fp rest,aH w (aQ E w F) cv fp (slots.map (a.tmps.getD · undef)) x.1∧(fp++rest).Perm (x.2.flatMap F)
 |[],x,hx=>by
  simp[kr]at hx;subst hx
  exact⟨[],[], .nil,by simp⟩
 |s::l,x,hx=>by
  simp only[kr,Option.bind_eq_some_iff,Option.map_eq_some_iff]at hx
  obtain⟨y,hy,z,hz,rfl⟩:=hx
  obtain⟨mq,r1,g1,g2⟩:=xJ h.obj 9 _ _ hy _ _ (h.slot s)
  obtain⟨j6,r2,g3,g4⟩:=OI h hz
  refine⟨mq++j6,r1++r2, .cons g1 g3, ?_⟩
  have :=ur (f1:=[]) (f2:=[]) g2 (by simpa using g4)
  simpa[List.flatMap_append]using this
theorem aV.jU(h:aV C E w S a β F){slots:List Nat}{cr:List aa}(hs:gj slots)(hr:jU S slots=some cr):bO C E (aG S.n slots cr) a w:=by unfold Ab.jU at hr;split at hr;·{rename_i W4 ids hp;split at hr;·{rename_i ct;simp only[Option.some.injEq]at hr;subst hr;obtain⟨fp,rest,g1,g2⟩:=OI h hp;have hmem:∀b∈fp,∃id,b∈F id:=fun b hb=>by{obtain⟨id,_,hid⟩:=List.mem_flatMap.1 (CA g2 hb);exact⟨id,hid⟩};refine aV.enter (I:=aQ E w F) h.n h.df g1 hs.nd (KC g2 (Fj h (Cr ct))) (fun b hb=>⟨hb.1,hb.2.1,fun hm=> ?_⟩) (fun b hb=> ?_) h.kept (fun g cs hg=>(h.cP g cs hg).ri rfl fun _ h=>h) h.ns hs.GG;·{obtain⟨id,hid⟩:=hmem b hm;exact hb.2.2 id hid};·obtain⟨id,hid⟩:=hmem b hb;exact h.lt id b hid};·cases hr};·cases hr
theorem Bx{o:Option (Bool×List Nat)}{S S':an}(h:eH o S=some S'):S'.n=S.n:=by unfold eH at h;split at h;·{simp only[Option.some.injEq]at h;rw[h]};·{exact Ov h};·obtain⟨t,_,rfl⟩:=Option.map_eq_some_iff.1 h;exact Co ..
theorem bO.cut{o:Option (Bool×List Nat)}(ho:∀b l,o=some (b,l)→gj l){S S':an}(h:bO C E S a w)(hc:eH o S=some S'):bO C E S' a w:=by unfold eH at hc;split at hc;·{simp only[Option.some.injEq]at hc;rw[←hc];exact h};·{obtain⟨β,F,hS⟩:=h;exact hS.norm (ho _ _ rfl) hc};·obtain⟨t,h1,rfl⟩:=Option.map_eq_some_iff.1 hc;obtain⟨β,F,hS⟩:=h;exact hS.jU (ho _ _ rfl) h1
theorem aV.tC(h:aV C E w S a β F){s:Nat}{S':an}(hf:Ab.tC S s=some S'):∃F',aV C E w S' a β F':=by unfold Ab.tC at hf;split at hf;(case h_2=>cases hf);rename_i v ids hpk;split at hf;(case isFalse=>cases hf);rename_i ct;simp only[Option.some.injEq]at hf;subst hf;obtain⟨fp,rest,g1,g2⟩:=xJ h.obj 9 _ _ hpk _ _ (h.slot s);simp only[List.nil_append]at g2;have hmem:∀b∈fp,∃id∈ids,b∈F id:=fun b hb=>by{obtain⟨id,h1,hid⟩:=List.mem_flatMap.1 (CA g2 hb);exact⟨id,h1,hid⟩};let F':Id→List Nat:=fun i=>if i∈ids then[]else F i;have hsub:∀i b,b∈F' i→b∈F i:=fun i b hb=>by{by_cases e:i∈ids;·{simp[F',e]at hb};·simpa[F',e]using hb};have hI:∀b,aQ E w F b→aQ E w F' b:=fun b hb=>⟨hb.1,hb.2.1,fun i hm=>hb.2.2 i (hsub i b hm)⟩;have af6:∀b∈fp,aQ E w F' b:=fun b hb=>by{obtain⟨id,hid,sA⟩:=hmem b hb;refine⟨(h.lt id b sA).2.elim (fun h=> .inr (.inl h)) (fun h=> .inr (.inr h)),(h.lt id b sA).1,fun i hm=> ?_⟩;by_cases e:i∈ids;·{simp[F',e]at hm};·have:=h.dK i id b (hsub i b hm) sA;subst this;exact e hid};have g6:∀{β':Id→Option Loc}{f:List Nat}{v:Value}{x:aa},R w (aQ E w F) β' f v x→R w (aQ E w F') β' f v x:=fun hr=>hr.mono hI (fun _ _=>rfl) (fun _ _ h=>h);have qZ:∀i rows,bD S.h (ids.map fun i=>(i,none)) i=some (some rows)→i∉ids∧S.h i=some (some rows):=fun i rows hr=>by{rcases gy S.h (ids.map fun i=>(i,none)) i with⟨x,hx,e1,e2⟩|⟨h1,h2⟩;·{obtain⟨j,hj,rfl⟩:=List.mem_map.1 hx;rw[e2]at hr;cases hr};·refine⟨fun hm=>h1 (i,none) (List.mem_map.2 ⟨i,hm,rfl⟩) rfl, ?_⟩;rw[h2]at hr;exact hr};have hnone:∀i,bD S.h (ids.map fun i=>(i,none)) i=none→S.h i=none:=fun i hr=>by{rcases gy S.h (ids.map fun i=>(i,none)) i with⟨x,hx,e1,e2⟩|⟨h1,h2⟩;·{rw[e2]at hr;cases hr};·rw[h2]at hr;exact hr};have jt:∀i rows,i∉ids→S.h i=some (some rows)→bD S.h (ids.map fun i=>(i,none)) i=some (some rows):=fun i rows hni hr=>by{rcases gy S.h (ids.map fun i=>(i,none)) i with⟨x,hx,e1,e2⟩|⟨h1,h2⟩;·{obtain⟨j,hj,rfl⟩:=List.mem_map.1 hx;exact absurd (show i∈ids from e1▸hj) hni};·rw[h2];exact hr};refine⟨F', ?_⟩;refine{n:=h.n,df:=h.df.mono (fun b hb=>⟨hI b hb.1,hb.2⟩) (fun _ _=>rfl),slot:=fun t=> ?_,obj:=fun i r hr=> ?_,dead:=fun i hi'=> ?_,nd:=fun i=> ?_,dK:=fun i j b hb hb'=>h.dK i j b (hsub i b hb) (hsub j b hb'),dom:=fun i hi'=>h.dom i (hnone i hi'),lt:=fun i b hb=>h.lt i b (hsub i b hb),kept:=h.kept,cP:=fun g cs hg=>g6 (h.cP g cs hg),ns:=h.ns,kb:=fun k r hk hr=>h.kb k r hk (qZ k r hr).2};·{by_cases e:t=s;·{subst e;simp only[aC,if_true];exact((g1.eC (fun b hb=>hI b hb) af6).mono (fun _ h=>h) (fun _ _=>rfl) z1)};·simp only[aC,if_neg e];exact g6 (h.slot t)};·{obtain⟨e,hr'⟩:=qZ i r hr;have:=(h.obj i r hr').mono (w':=w) (I':=aQ E w F') (β':=β) hI (fun _ _=>rfl) (fun _ _ h=>h);simpa[F',e]using this};·{by_cases e:i∈ids;·{simp[F',e]};·simp only[F',if_neg e];exact h.dead i fun r hr=>hi' r (jt i r e hr)};·by_cases e:i∈ids;·{simp[F',e]};·simpa[F',e]using h.nd i
theorem aV.tB(h:aV C E w S a β F){s:Nat}{S':an}(hf:Ab.tB S s=some S'):∃F',aV C E w S' a β F':=by unfold Ab.tB at hf;split at hf;·{rename_i id hs;split at hf;·{rename_i cells hid;split at hf;·{rename_i hi;simp only[Option.some.injEq]at hf;subst hf;have zu:=h.obj id [cells] hid;let F':Id→List Nat:=fun i=>if i=id then[]else F i;have hsub:∀i b,b∈F' i→b∈F i:=fun i b hb=>by{by_cases e:i=id;·{simp[F',e]at hb};·simpa[F',e]using hb};have hI:∀b,aQ E w F b→aQ E w F' b:=fun b hb=>⟨hb.1,hb.2.1,fun i hm=>hb.2.2 i (hsub i b hm)⟩;have g6:∀{β':Id→Option Loc}{f:List Nat}{v:Value}{x:aa},R w (aQ E w F) β' f v x→R w (aQ E w F') β' f v x:=fun hr=>hr.mono hI (fun _ _=>rfl) (fun _ _ h=>h);refine⟨F', ?_⟩;refine{n:=h.n,df:=h.df.mono (fun b hb=>⟨hI b hb.1,hb.2⟩) (fun _ _=>rfl),slot:=fun t=> ?_,obj:=fun i r hr=> ?_,dead:=fun i hi'=> ?_,nd:=fun i=> ?_,dK:=fun i j b hb hb'=>h.dK i j b (hsub i b hb) (hsub j b hb'),dom:=fun i hi'=> ?_,lt:=fun i b hb=>h.lt i b (hsub i b hb),kept:=h.kept,cP:=fun g cs hg=>g6 (h.cP g cs hg),ns:=h.ns,kb:=fun k r hk hr=>h.kb k r hk (by by_cases e:k=id;·{subst e;simp[aC]at hr};·simpa[aC,e]using hr)};·{by_cases e:t=s;·{subst e;have hv:=h.slot t;rw[hs]at hv;simp only[aC,if_true];obtain⟨_,b,o,sz,n,hb,hv⟩:=hv.qh;obtain⟨vs,cT,gF,hB,⟨_,cy⟩,agU,cc,hl⟩:=zu.at hb;simp only[List.flatten_cons,List.flatten_nil,List.append_nil]at hl;have nW:aH w (aQ E w F) cv cT vs cells:=R.oT hl (by simpa[fU]using hi);have BS:cT=[]:=R.NX hl (by simpa[fU]using hi);subst BS;have sA:b∈F id:=by{rw[gF];exact List.mem_cons_self .. };have tO:aQ E w F' b:=⟨(h.lt id b sA).2.elim (fun h=> .inr (.inl h)) (fun h=> .inr (.inr h)),(h.lt id b sA).1,fun i hm=>by by_cases e:i=id;·{simp[F',e]at hm};·exact e (h.dK i id b (hsub i b hm) sA)⟩;rw[hv,Nat.zero_mul,Nat.add_zero];exact .ax tO cc (g6 nW)};·simp only[aC,if_neg e];exact g6 (h.slot t)};·{by_cases e:i=id;·{subst e;simp[aC]at hr};·simp only[aC,if_neg e]at hr;have:=(h.obj i r hr).mono (w':=w) (I':=aQ E w F') (β':=β) hI (fun _ _=>rfl) (fun _ _ h=>h);simpa[F',e]using this};·{by_cases e:i=id;·{simp[F',e]};·simp only[F',if_neg e];refine h.dead i fun r hr=>hi' r ?_;simp[aC,e,hr]};·{by_cases e:i=id;·{simp[F',e]};·simpa[F',e]using h.nd i};·by_cases e:i=id;·{subst e;simp[aC]at hi'};·simp only[aC,if_neg e]at hi';exact h.dom i hi'};·cases hf};·cases hf};·{exact h.tC hf};·{exact h.tC hf};·{exact h.tC hf};·cases hf
theorem aeW{S S':an}{s:Nat}(h:tB S s=some S'):S'.n=S.n:=by
 unfold tB tC at h
 repeat'(first
  |(simp only[reduceCtorEq]at h;done)
  |(simp only[Option.some.injEq]at h;subst h;rfl)
  |split at h)
theorem Mp:∀{l:List Nat}{S S':an},mu l S=some S'→S'.n=S.n|[],S,S',h=>by{simp only[mu,Option.some.injEq]at h;rw[h]}|s::l,S,S',h=>by obtain⟨cg,h1,h2⟩:=Option.bind_eq_some_iff.1 h;rw[Mp h2,aeW h1]
theorem bO.mu:∀{l:List Nat}{S S':an},bO C E S a w→Ab.mu l S=some S'→bO C E S' a w|[],S,S',h,e=>by{simp only[Ab.mu,Option.some.injEq]at e;rw[←e];exact h}|s::l,S,S',h,e=>by obtain⟨cg,h1,h2⟩:=Option.bind_eq_some_iff.1 e;obtain⟨β,F,hS⟩:=h;obtain⟨F',mA⟩:=hS.tB h1;exact bO.mu ⟨β,F',mA⟩ h2
theorem akO(h:bO C E S a w){p s:Nat}{S':an}(hf:sO p S s=some S'):bO C E S' a w:=by obtain⟨β,F,h⟩:=h;unfold sO at hf;split at hf;·{rename_i id arX ari hs;split at hf;·{rename_i r hid;split at hf;·{simp only[Option.some.injEq]at hf;subst hf;exact⟨β,F,h⟩};·split at hf;·{rename_i hc;simp only[Option.some.injEq]at hf;subst hf;have hv:=h.slot s;rw[hs]at hv;obtain⟨_,b,o,sz,n,hb,_⟩:=hv.qh;have e1:(r.drop 0).take r.length=r:=by{simp};obtain⟨β',F',vs,hS,_⟩:=h.PB (p:=[p,s]) (row:=0) (off:=0) (n:=r.length) hid hb rfl (by omega) (by rw[e1];exact hc.2) (fun q hq=>h.ns s hc.1 (q++[p]) (by simpa using hq));rw[e1]at hS;simp only[List.set_cons_zero,List.take_zero,List.nil_append,Nat.zero_add,List.drop_length,List.append_nil]at hS;exact⟨β',F',hS⟩};·cases hf};·cases hf};·cases hf
theorem akN{S S':an}{p s:Nat}(h:sO p S s=some S'):S'.n=S.n:=by
 unfold sO at h
 repeat'(first
  |(simp only[reduceCtorEq]at h;done)
  |(simp only[Option.some.injEq]at h;subst h;rfl)
  |split at h)
theorem VK:∀{l:List Nat}{p:Nat}{S S':an},n8 p l S=some S'→S'.n=S.n|[],_,S,S',h=>by{simp only[n8,Option.some.injEq]at h;rw[h]}|s::l,p,S,S',h=>by obtain⟨cg,h1,h2⟩:=Option.bind_eq_some_iff.1 h;rw[VK h2,akN h1]
theorem bO.n8:∀{l:List Nat}{p:Nat}{S S':an},bO C E S a w→Ab.n8 p l S=some S'→bO C E S' a w|[],_,S,S',h,e=>by{simp only[Ab.n8,Option.some.injEq]at e;rw[←e];exact h}|s::l,p,S,S',h,e=>by obtain⟨cg,h1,h2⟩:=Option.bind_eq_some_iff.1 e;exact bO.n8 (akO h h1) h2
theorem adn{f:FuncId}{id:Nat}{S S':an}(h:qT C f id S=some S'):S'.n=S.n:=by obtain⟨k3,h0,h⟩:=Option.bind_eq_some_iff.1 h;obtain⟨cg,h1,h2⟩:=Option.bind_eq_some_iff.1 h;rw[Bx h2,Mp h1,VK h0]
theorem bO.qT{f:FuncId}{id:Nat}(ho:∀b l,C.j5 f id=some (b,l)→gj l){S S':an}(h:bO C E S a w)(hc:Ab.qT C f id S=some S'):bO C E S' a w:=by obtain⟨k3,h0,hc⟩:=Option.bind_eq_some_iff.1 hc;obtain⟨cg,h1,h2⟩:=Option.bind_eq_some_iff.1 hc;exact(bO.mu (bO.n8 h h0) h1).cut ho h2
structure uQ(C:aU):Prop where
 r:∀f i b l,C.j5 f i=some (b,l)→gj l
 b:∀f i b l,C.qS f i=some (b,l)→gj l
 s:∀f i b l,C.I6 f i=some (b,l)→gj l
theorem uQ.seq(h:uQ C){c:Code}:∀b l,rN C f c=some (b,l)→gj l:=by unfold rN;split;·{exact h.s f _};·intro b l e;cases e
end
end Go.Ab
