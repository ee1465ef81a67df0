import Derived.Test.YtbbhbdlljfffdaaGreatDoorAbDraw
open Option.some renaming injEq→GE
set_option linter.all false
namespace Go.Ab
open Go
section
variable{C:aL}{E:Env}{w:World}{S:ah}{a:Act}{β:Id→Option Loc}{F:Id→List Nat}
variable{f:FuncId}{call:FuncId→List U→Option (U×List U)}
theorem Lx(h:aP C E w S a β F):∀{slots:List Nat}{x},jZ S.h S.t slots=some x→
  ∃fp rest,av w (aD E w F) b8 fp (slots.map (a.tmps.getD · undef)) x.1∧(fp++rest).Perm (x.2.flatMap F)
 |[],x,hx=>by
  simp[jZ]at hx;subst hx
  exact⟨[],[], .nil,by simp⟩
 |s::l,x,hx=>by
  simp only[jZ,Option.bind_eq_some_iff,Option.map_eq_some_iff]at hx
  obtain⟨y,hy,z,hz,rfl⟩:=hx
  obtain⟨lH,r1,g1,g2⟩:=vk h.obj 9 _ _ hy _ _ (h.slot s)
  obtain⟨jQ,r2,g3,g4⟩:=Lx h hz
  refine⟨lH++jQ,r1++r2, .cons g1 g3, ?_⟩
  have :=r8 (f1:=[]) (f2:=[]) g2 (by simpa using g4)
  simpa[List.flatMap_append]using this
theorem aP.jF(h:aP C E w S a β F){slots:List Nat}{ct:List U}(hs:fR slots)(hr:jF S slots=some ct):bD C E (aJ S.n slots ct) a w:=by unfold Ab.jF at hr;split at hr;·{rename_i UJ ids hp;split at hr;·{rename_i hnd;simp only[GE]at hr;subst hr;obtain⟨fp,rest,g1,g2⟩:=Lx h hp;have hmem:∀b∈fp,∃id,b∈F id:=fun b hb=>by{obtain⟨id,_,hid⟩:=List.mem_flatMap.1 (AJ g2 hb);exact⟨id,hid⟩};refine aP.enter (I:=aD E w F) h.n h.df g1 hs.nd (G9 g2 (Cc h (AA hnd))) (fun b hb=>⟨hb.1,hb.2.1,fun hm=> ?_⟩) (fun b hb=> ?_) h.kept (fun g cs hg=>(h.cD g cs hg).pS rfl fun _ h=>h) h.ns hs.Dy;·{obtain⟨id,hid⟩:=hmem b hm;exact hb.2.2 id hid};·obtain⟨id,hid⟩:=hmem b hb;exact h.lt id b hid};·cases hr};·cases hr
theorem zu{o:Option (Bool×List Nat)}{S S':ah}(h:dB o S=some S'):S'.n=S.n:=by unfold dB at h;split at h;·{simp only[GE]at h;rw[h]};·{exact Lh h};·obtain⟨t,_,rfl⟩:=Option.map_eq_some_iff.1 h;exact Ax ..
theorem bD.cut{o:Option (Bool×List Nat)}(ho:∀b l,o=some (b,l)→fR l){S S':ah}(h:bD C E S a w)(hc:dB o S=some S'):bD C E S' a w:=by unfold dB at hc;split at hc;·{simp only[GE]at hc;rw[←hc];exact h};·{obtain⟨β,F,hS⟩:=h;exact hS.norm (ho _ _ rfl) hc};·obtain⟨t,h1,rfl⟩:=Option.map_eq_some_iff.1 hc;obtain⟨β,F,hS⟩:=h;exact hS.jF (ho _ _ rfl) h1
theorem aP.ow(h:aP C E w S a β F){s:Nat}{S':ah}(hf:Ab.ow S s=some S'):∃F',aP C E w S' a β F':=by unfold Ab.ow at hf;split at hf;(case h_2=>cases hf);rename_i v ids hpk;split at hf;(case isFalse=>cases hf);rename_i hnd;simp only[GE]at hf;subst hf;obtain⟨fp,rest,g1,g2⟩:=vk h.obj 9 _ _ hpk _ _ (h.slot s);simp only[List.nil_append]at g2;have hmem:∀b∈fp,∃id∈ids,b∈F id:=fun b hb=>by{obtain⟨id,h1,hid⟩:=List.mem_flatMap.1 (AJ g2 hb);exact⟨id,h1,hid⟩};let F':Id→List Nat:=fun i=>if i∈ids then[]else F i;have hsub:∀i b,b∈F' i→b∈F i:=fun i b hb=>by{by_cases e:i∈ids;·{simp[F',e]at hb};·simpa[F',e]using hb};have hI:∀b,aD E w F b→aD E w F' b:=fun b hb=>⟨hb.1,hb.2.1,fun i hm=>hb.2.2 i (hsub i b hm)⟩;have adf:∀b∈fp,aD E w F' b:=fun b hb=>by{obtain⟨id,hid,qz⟩:=hmem b hb;refine⟨(h.lt id b qz).2.elim (fun h=> .inr (.inl h)) (fun h=> .inr (.inr h)),(h.lt id b qz).1,fun i hm=> ?_⟩;by_cases e:i∈ids;·{simp[F',e]at hm};·have:=h.dc i id b (hsub i b hm) qz;subst this;exact e hid};have gP:∀{β':Id→Option Loc}{f:List Nat}{v:Value}{x:U},R w (aD E w F) β' f v x→R w (aD E w F') β' f v x:=fun hr=>hr.mono hI (fun _ _=>rfl) (fun _ _ h=>h);have rU:∀i rows,bu S.h (ids.map fun i=>(i,none)) i=some (some rows)→i∉ids∧S.h i=some (some rows):=fun i rows hr=>by{rcases gm S.h (ids.map fun i=>(i,none)) i with⟨x,hx,e1,e2⟩|⟨h1,h2⟩;·{obtain⟨j,hj,rfl⟩:=List.mem_map.1 hx;rw[e2]at hr;cases hr};·refine⟨fun hm=>h1 (i,none) (List.mem_map.2 ⟨i,hm,rfl⟩) rfl, ?_⟩;rw[h2]at hr;exact hr};have hnone:∀i,bu S.h (ids.map fun i=>(i,none)) i=none→S.h i=none:=fun i hr=>by{rcases gm S.h (ids.map fun i=>(i,none)) i with⟨x,hx,e1,e2⟩|⟨h1,h2⟩;·{rw[e2]at hr;cases hr};·rw[h2]at hr;exact hr};have hal:∀i rows,i∉ids→S.h i=some (some rows)→bu S.h (ids.map fun i=>(i,none)) i=some (some rows):=fun i rows hni hr=>by{rcases gm S.h (ids.map fun i=>(i,none)) i with⟨x,hx,e1,e2⟩|⟨h1,h2⟩;·{obtain⟨j,hj,rfl⟩:=List.mem_map.1 hx;exact absurd (show i∈ids from e1▸hj) hni};·rw[h2];exact hr};refine⟨F', ?_⟩;refine{n:=h.n,df:=h.df.mono (fun b hb=>⟨hI b hb.1,hb.2⟩) (fun _ _=>rfl),slot:=fun t=> ?_,obj:=fun i r hr=> ?_,dead:=fun i hi'=> ?_,nd:=fun i=> ?_,dc:=fun i j b hb hb'=>h.dc i j b (hsub i b hb) (hsub j b hb'),dom:=fun i hi'=>h.dom i (hnone i hi'),lt:=fun i b hb=>h.lt i b (hsub i b hb),kept:=h.kept,cD:=fun g cs hg=>gP (h.cD g cs hg),ns:=h.ns,kb:=fun k r hk hr=>h.kb k r hk (rU k r hr).2};·{by_cases e:t=s;·{subst e;simp only[an,if_true];exact((g1.dF (fun b hb=>hI b hb) adf).mono (fun _ h=>h) (fun _ _=>rfl) xT)};·simp only[an,Do e];exact gP (h.slot t)};·{obtain⟨e,hr'⟩:=rU i r hr;have:=(h.obj i r hr').mono (w':=w) (I':=aD E w F') (β':=β) hI (fun _ _=>rfl) (fun _ _ h=>h);simpa[F',e]using this};·{by_cases e:i∈ids;·{simp[F',e]};·simp only[F',Do e];exact h.dead i fun r hr=>hi' r (hal i r e hr)};·by_cases e:i∈ids;·{simp[F',e]};·simpa[F',e]using h.nd i
theorem aP.mb(h:aP C E w S a β F){s:Nat}{S':ah}(hf:Ab.mb S s=some S'):∃F',aP C E w S' a β F':=by unfold Ab.mb at hf;split at hf;·{rename_i id hs;split at hf;·{rename_i cells hid;split at hf;·{rename_i hi;simp only[GE]at hf;subst hf;have xm:=h.obj id [cells] hid;let F':Id→List Nat:=fun i=>if i=id then[]else F i;have hsub:∀i b,b∈F' i→b∈F i:=fun i b hb=>by{by_cases e:i=id;·{simp[F',e]at hb};·simpa[F',e]using hb};have hI:∀b,aD E w F b→aD E w F' b:=fun b hb=>⟨hb.1,hb.2.1,fun i hm=>hb.2.2 i (hsub i b hm)⟩;have gP:∀{β':Id→Option Loc}{f:List Nat}{v:Value}{x:U},R w (aD E w F) β' f v x→R w (aD E w F') β' f v x:=fun hr=>hr.mono hI (fun _ _=>rfl) (fun _ _ h=>h);refine⟨F', ?_⟩;refine{n:=h.n,df:=h.df.mono (fun b hb=>⟨hI b hb.1,hb.2⟩) (fun _ _=>rfl),slot:=fun t=> ?_,obj:=fun i r hr=> ?_,dead:=fun i hi'=> ?_,nd:=fun i=> ?_,dc:=fun i j b hb hb'=>h.dc i j b (hsub i b hb) (hsub j b hb'),dom:=fun i hi'=> ?_,lt:=fun i b hb=>h.lt i b (hsub i b hb),kept:=h.kept,cD:=fun g cs hg=>gP (h.cD g cs hg),ns:=h.ns,kb:=fun k r hk hr=>h.kb k r hk (by by_cases e:k=id;·{subst e;simp[an]at hr};·simpa[an,e]using hr)};·{by_cases e:t=s;·{subst e;have hv:=h.slot t;rw[hs]at hv;simp only[an,if_true];obtain⟨_,b,o,sz,n,hb,hv⟩:=hv.oK;obtain⟨vs,cO,gi,hB,⟨_,hrows⟩,ad5,ck,hl⟩:=xm.at hb;simp only[List.flatten_cons,List.flatten_nil,List.append_nil]at hl;have rW:av w (aD E w F) b8 cO vs cells:=R.nR hl (by simpa[fA]using hi);have zV:cO=[]:=R.KN hl (by simpa[fA]using hi);subst zV;have qz:b∈F id:=by{rw[gi];exact List.mem_cons_self .. };have rR:aD E w F' b:=⟨(h.lt id b qz).2.elim (fun h=> .inr (.inl h)) (fun h=> .inr (.inr h)),(h.lt id b qz).1,fun i hm=>by by_cases e:i=id;·{simp[F',e]at hm};·exact e (h.dc i id b (hsub i b hm) qz)⟩;rw[hv,Nat.zero_mul,Nat.add_zero];exact .aA rR ck (gP rW)};·simp only[an,Do e];exact gP (h.slot t)};·{by_cases e:i=id;·{subst e;simp[an]at hr};·simp only[an,Do e]at hr;have:=(h.obj i r hr).mono (w':=w) (I':=aD E w F') (β':=β) hI (fun _ _=>rfl) (fun _ _ h=>h);simpa[F',e]using this};·{by_cases e:i=id;·{simp[F',e]};·simp only[F',Do e];refine h.dead i fun r hr=>hi' r ?_;simp[an,e,hr]};·{by_cases e:i=id;·{simp[F',e]};·simpa[F',e]using h.nd i};·by_cases e:i=id;·{subst e;simp[an]at hi'};·simp only[an,Do e]at hi';exact h.dom i hi'};·cases hf};·cases hf};·{exact h.ow hf};·{exact h.ow hf};·{exact h.ow hf};·{simp only[GE]at hf;subst hf;exact⟨F,h⟩};·cases hf
theorem ab9{S S':ah}{s:Nat}(h:mb S s=some S'):S'.n=S.n:=by
 unfold mb ow at h
 repeat'(first
  |(simp only[reduceCtorEq]at h;done)
  |(simp only[GE]at h;subst h;rfl)
  |split at h)
theorem Ji:∀{l:List Nat}{S S':ah},kV l S=some S'→S'.n=S.n|[],S,S',h=>by{simp only[kV,GE]at h;rw[h]}|s::l,S,S',h=>by obtain⟨bJ,h1,h2⟩:=Option.bind_eq_some_iff.1 h;rw[Ji h2,ab9 h1]
theorem bD.kV:∀{l:List Nat}{S S':ah},bD C E S a w→Ab.kV l S=some S'→bD C E S' a w|[],S,S',h,e=>by{simp only[Ab.kV,GE]at e;rw[←e];exact h}|s::l,S,S',h,e=>by obtain⟨bJ,h1,h2⟩:=Option.bind_eq_some_iff.1 e;obtain⟨β,F,hS⟩:=h;obtain⟨F',lK⟩:=hS.mb h1;exact bD.kV ⟨β,F',lK⟩ h2
theorem aih(h:bD C E S a w){p s:Nat}{S':ah}(hf:qO p S s=some S'):bD C E S' a w:=by obtain⟨β,F,h⟩:=h;unfold qO at hf;split at hf;·{rename_i id aom anK hs;split at hf;·{rename_i r hid;split at hf;·{simp only[GE]at hf;subst hf;exact⟨β,F,h⟩};·split at hf;·{rename_i hc;simp only[GE]at hf;subst hf;have hv:=h.slot s;rw[hs]at hv;obtain⟨_,b,o,sz,n,hb,_⟩:=hv.oK;have e1:(r.drop 0).take r.length=r:=by{simp};obtain⟨β',F',vs,hS,_⟩:=h.M5 (p:=[p,s]) (row:=0) (off:=0) (n:=r.length) hid hb rfl (by omega) (by rw[e1];exact hc.2) (fun q hq=>h.ns s hc.1 (q++[p]) (by simpa using hq));rw[e1]at hS;simp only[List.set_cons_zero,List.take_zero,List.nil_append,Nat.zero_add,List.drop_length,List.append_nil]at hS;exact⟨β',F',hS⟩};·cases hf};·cases hf};·cases hf
theorem aif{S S':ah}{p s:Nat}(h:qO p S s=some S'):S'.n=S.n:=by
 unfold qO at h
 repeat'(first
  |(simp only[reduceCtorEq]at h;done)
  |(simp only[GE]at h;subst h;rfl)
  |split at h)
theorem S5:∀{l:List Nat}{p:Nat}{S S':ah},mD p l S=some S'→S'.n=S.n|[],_,S,S',h=>by{simp only[mD,GE]at h;rw[h]}|s::l,p,S,S',h=>by obtain⟨bJ,h1,h2⟩:=Option.bind_eq_some_iff.1 h;rw[S5 h2,aif h1]
theorem bD.mD:∀{l:List Nat}{p:Nat}{S S':ah},bD C E S a w→Ab.mD p l S=some S'→bD C E S' a w|[],_,S,S',h,e=>by{simp only[Ab.mD,GE]at e;rw[←e];exact h}|s::l,p,S,S',h,e=>by obtain⟨bJ,h1,h2⟩:=Option.bind_eq_some_iff.1 e;exact bD.mD (aih h h1) h2
theorem aaA{f:FuncId}{id:Nat}{S S':ah}(h:pq C f id S=some S'):S'.n=S.n:=by obtain⟨fU,h0,h⟩:=Option.bind_eq_some_iff.1 h;obtain⟨bJ,h1,h2⟩:=Option.bind_eq_some_iff.1 h;rw[zu h2,Ji h1,S5 h0]
theorem bD.pq{f:FuncId}{id:Nat}(ho:∀b l,C.ju f id=some (b,l)→fR l){S S':ah}(h:bD C E S a w)(hc:Ab.pq C f id S=some S'):bD C E S' a w:=by obtain⟨fU,h0,hc⟩:=Option.bind_eq_some_iff.1 hc;obtain⟨bJ,h1,h2⟩:=Option.bind_eq_some_iff.1 hc;exact(bD.kV (bD.mD h h0) h1).cut ho h2
structure q7(C:aL):Prop where
 r:∀f i b l,C.ju f i=some (b,l)→fR l
 b:∀f i b l,C.pn f i=some (b,l)→fR l
 s:∀f i b l,C.Ft f i=some (b,l)→fR l
theorem q7.seq(h:q7 C){c:Code}:∀b l,ir C f c=some (b,l)→fR l:=by unfold ir;split;·{exact h.s f _};·intro b l e;cases e
end
end Go.Ab
