import Derived.Test.YtbbhbdlljfffdaaGreatDoorAbDraw
open Option.some renaming injEq→GE
set_option linter.all false
namespace Go.Ab
open Go
section
variable{C:aB}{E:Env}{w:World}{S:ah}{a:Act}{β:Id→Option Loc}{F:Id→List Nat}
variable{f:FuncId}{call:FuncId→List U→Option (U×List U)}
theorem DC(h:aC C E w S a β F):∀{slots:List Nat}{x},gQ S.h S.t slots=some x→
  ∃fp rest,aj w (av E w F) br fp (slots.map (a.tmps.getD · undef)) x.1∧(fp++rest).Perm (x.2.flatMap F)
 |[],x,hx=>by
  simp[gQ]at hx;subst hx
  exact⟨[],[], .nil,by simp⟩
 |s::l,x,hx=>by
  simp only[gQ,Option.bind_eq_some_iff,Option.map_eq_some_iff]at hx
  obtain⟨y,hy,z,hz,rfl⟩:=hx
  obtain⟨ja,r1,g1,g2⟩:=qy h.obj 9 _ _ hy _ _ (h.slot s)
  obtain⟨gH,r2,g3,g4⟩:=DC h hz
  refine⟨ja++gH,r1++r2, .cons g1 g3, ?_⟩
  have :=nY (f1:=[]) (f2:=[]) g2 (by simpa using g4)
  simpa[List.flatMap_append]using this
theorem aC.gA(h:aC C E w S a β F){slots:List Nat}{bB:List U}(hs:eE slots)(hr:gA S slots=some bB):aW C E (aI S.n slots bB) a w:=by unfold Ab.gA at hr;split at hr;·{rename_i Lb ids hp;split at hr;·{rename_i hnd;simp only[GE]at hr;subst hr;obtain⟨fp,rest,g1,g2⟩:=DC h hp;have hmem:∀b∈fp,∃id,b∈F id:=fun b hb=>by{obtain⟨id,_,hid⟩:=List.mem_flatMap.1 (uw g2 hb);exact⟨id,hid⟩};refine aC.enter (I:=av E w F) h.n h.df g1 hs.nd (Ad g2 (vv h (uh hnd))) (fun b hb=>⟨hb.1,hb.2.1,fun hm=> ?_⟩) (fun b hb=> ?_) h.kept (fun g cs hg=>(h.bJ g cs hg).mc rfl fun _ h=>h) h.ns hs.xg;·{obtain⟨id,hid⟩:=hmem b hm;exact hb.2.2 id hid};·obtain⟨id,hid⟩:=hmem b hb;exact h.lt id b hid};·cases hr};·cases hr
theorem s8{o:Option (Bool×List Nat)}{S S':ah}(h:dj o S=some S'):S'.n=S.n:=by unfold dj at h;split at h;·{simp only[GE]at h;rw[h]};·{exact Dp h};·obtain⟨t,_,rfl⟩:=Option.map_eq_some_iff.1 h;exact ud ..
theorem aW.cut{o:Option (Bool×List Nat)}(ho:∀b l,o=some (b,l)→eE l){S S':ah}(h:aW C E S a w)(hc:dj o S=some S'):aW C E S' a w:=by unfold dj at hc;split at hc;·{simp only[GE]at hc;rw[←hc];exact h};·{obtain⟨β,F,hS⟩:=h;exact hS.norm (ho _ _ rfl) hc};·obtain⟨t,h1,rfl⟩:=Option.map_eq_some_iff.1 hc;obtain⟨β,F,hS⟩:=h;exact hS.gA (ho _ _ rfl) h1
theorem aC.k5(h:aC C E w S a β F){s:Nat}{S':ah}(hf:Ab.k5 S s=some S'):∃F',aC C E w S' a β F':=by unfold Ab.k5 at hf;split at hf;(case h_2=>cases hf);rename_i v ids hpk;split at hf;(case isFalse=>cases hf);rename_i hnd;simp only[GE]at hf;subst hf;obtain⟨fp,rest,g1,g2⟩:=qy h.obj 9 _ _ hpk _ _ (h.slot s);simp only[List.nil_append]at g2;have hmem:∀b∈fp,∃id∈ids,b∈F id:=fun b hb=>by{obtain⟨id,h1,hid⟩:=List.mem_flatMap.1 (uw g2 hb);exact⟨id,h1,hid⟩};let F':Id→List Nat:=fun i=>if i∈ids then[]else F i;have hsub:∀i b,b∈F' i→b∈F i:=fun i b hb=>by{by_cases e:i∈ids;·{simp[F',e]at hb};·simpa[F',e]using hb};have hI:∀b,av E w F b→av E w F' b:=fun b hb=>⟨hb.1,hb.2.1,fun i hm=>hb.2.2 i (hsub i b hm)⟩;have Sw:∀b∈fp,av E w F' b:=fun b hb=>by{obtain⟨id,hid,mV⟩:=hmem b hb;refine⟨(h.lt id b mV).2.elim (fun h=> .inr (.inl h)) (fun h=> .inr (.inr h)),(h.lt id b mV).1,fun i hm=> ?_⟩;by_cases e:i∈ids;·{simp[F',e]at hm};·have:=h.ct i id b (hsub i b hm) mV;subst this;exact e hid};have fk:∀{β':Id→Option Loc}{f:List Nat}{v:Value}{x:U},R w (av E w F) β' f v x→R w (av E w F') β' f v x:=fun hr=>hr.mono hI (fun _ _=>rfl) (fun _ _ h=>h);have nO:∀i rows,aQ S.h (ids.map fun i=>(i,none)) i=some (some rows)→i∉ids∧S.h i=some (some rows):=fun i rows hr=>by{rcases eR S.h (ids.map fun i=>(i,none)) i with⟨x,hx,e1,e2⟩|⟨h1,h2⟩;·{obtain⟨j,hj,rfl⟩:=List.mem_map.1 hx;rw[e2]at hr;cases hr};·refine⟨fun hm=>h1 (i,none) (List.mem_map.2 ⟨i,hm,rfl⟩) rfl, ?_⟩;rw[h2]at hr;exact hr};have hnone:∀i,aQ S.h (ids.map fun i=>(i,none)) i=none→S.h i=none:=fun i hr=>by{rcases eR S.h (ids.map fun i=>(i,none)) i with⟨x,hx,e1,e2⟩|⟨h1,h2⟩;·{rw[e2]at hr;cases hr};·rw[h2]at hr;exact hr};have hal:∀i rows,i∉ids→S.h i=some (some rows)→aQ S.h (ids.map fun i=>(i,none)) i=some (some rows):=fun i rows hni hr=>by{rcases eR S.h (ids.map fun i=>(i,none)) i with⟨x,hx,e1,e2⟩|⟨h1,h2⟩;·{obtain⟨j,hj,rfl⟩:=List.mem_map.1 hx;exact absurd (show i∈ids from e1▸hj) hni};·rw[h2];exact hr};refine⟨F', ?_⟩;refine{n:=h.n,df:=h.df.mono (fun b hb=>⟨hI b hb.1,hb.2⟩) (fun _ _=>rfl),slot:=fun t=> ?_,obj:=fun i r hr=> ?_,dead:=fun i hi'=> ?_,nd:=fun i=> ?_,ct:=fun i j b hb hb'=>h.ct i j b (hsub i b hb) (hsub j b hb'),dom:=fun i hi'=>h.dom i (hnone i hi'),lt:=fun i b hb=>h.lt i b (hsub i b hb),kept:=h.kept,bJ:=fun g cs hg=>fk (h.bJ g cs hg),ns:=h.ns,kb:=fun k r hk hr=>h.kb k r hk (nO k r hr).2};·{by_cases e:t=s;·{subst e;simp only[ai,if_true];exact((g1.cS (fun b hb=>hI b hb) Sw).mono (fun _ h=>h) (fun _ _=>rfl) se)};·simp only[ai,Do e];exact fk (h.slot t)};·{obtain⟨e,hr'⟩:=nO i r hr;have:=(h.obj i r hr').mono (w':=w) (I':=av E w F') (β':=β) hI (fun _ _=>rfl) (fun _ _ h=>h);simpa[F',e]using this};·{by_cases e:i∈ids;·{simp[F',e]};·simp only[F',Do e];exact h.dead i fun r hr=>hi' r (hal i r e hr)};·by_cases e:i∈ids;·{simp[F',e]};·simpa[F',e]using h.nd i
theorem aC.kC(h:aC C E w S a β F){s:Nat}{S':ah}(hf:Ab.kC S s=some S'):∃F',aC C E w S' a β F':=by unfold Ab.kC at hf;split at hf;·{rename_i id hs;split at hf;·{rename_i cells hid;split at hf;·{rename_i hi;simp only[GE]at hf;subst hf;have rP:=h.obj id [cells] hid;let F':Id→List Nat:=fun i=>if i=id then[]else F i;have hsub:∀i b,b∈F' i→b∈F i:=fun i b hb=>by{by_cases e:i=id;·{simp[F',e]at hb};·simpa[F',e]using hb};have hI:∀b,av E w F b→av E w F' b:=fun b hb=>⟨hb.1,hb.2.1,fun i hm=>hb.2.2 i (hsub i b hm)⟩;have fk:∀{β':Id→Option Loc}{f:List Nat}{v:Value}{x:U},R w (av E w F) β' f v x→R w (av E w F') β' f v x:=fun hr=>hr.mono hI (fun _ _=>rfl) (fun _ _ h=>h);refine⟨F', ?_⟩;refine{n:=h.n,df:=h.df.mono (fun b hb=>⟨hI b hb.1,hb.2⟩) (fun _ _=>rfl),slot:=fun t=> ?_,obj:=fun i r hr=> ?_,dead:=fun i hi'=> ?_,nd:=fun i=> ?_,ct:=fun i j b hb hb'=>h.ct i j b (hsub i b hb) (hsub j b hb'),dom:=fun i hi'=> ?_,lt:=fun i b hb=>h.lt i b (hsub i b hb),kept:=h.kept,bJ:=fun g cs hg=>fk (h.bJ g cs hg),ns:=h.ns,kb:=fun k r hk hr=>h.kb k r hk (by by_cases e:k=id;·{subst e;simp[ai]at hr};·simpa[ai,e]using hr)};·{by_cases e:t=s;·{subst e;have hv:=h.slot t;rw[hs]at hv;simp only[ai,if_true];obtain⟨_,b,o,sz,n,hb,hv⟩:=hv.lp;obtain⟨vs,bW,fj,hB,⟨_,hrows⟩,Tf,bx,hl⟩:=rP.at hb;simp only[List.flatten_cons,List.flatten_nil,List.append_nil]at hl;have qb:aj w (av E w F) br bW vs cells:=R.kG hl (by simpa[eC]using hi);have vV:bW=[]:=R.CZ hl (by simpa[eC]using hi);subst vV;have mV:b∈F id:=by{rw[fj];exact List.mem_cons_self .. };have nM:av E w F' b:=⟨(h.lt id b mV).2.elim (fun h=> .inr (.inl h)) (fun h=> .inr (.inr h)),(h.lt id b mV).1,fun i hm=>by by_cases e:i=id;·{simp[F',e]at hm};·exact e (h.ct i id b (hsub i b hm) mV)⟩;rw[hv,Nat.zero_mul,Nat.add_zero];exact .aL nM bx (fk qb)};·simp only[ai,Do e];exact fk (h.slot t)};·{by_cases e:i=id;·{subst e;simp[ai]at hr};·simp only[ai,Do e]at hr;have:=(h.obj i r hr).mono (w':=w) (I':=av E w F') (β':=β) hI (fun _ _=>rfl) (fun _ _ h=>h);simpa[F',e]using this};·{by_cases e:i=id;·{simp[F',e]};·simp only[F',Do e];refine h.dead i fun r hr=>hi' r ?_;simp[ai,e,hr]};·{by_cases e:i=id;·{simp[F',e]};·simpa[F',e]using h.nd i};·by_cases e:i=id;·{subst e;simp[ai]at hi'};·simp only[ai,Do e]at hi';exact h.dom i hi'};·cases hf};·cases hf};·{exact h.k5 hf};·{exact h.k5 hf};·{exact h.k5 hf};·{simp only[GE]at hf;subst hf;exact⟨F,h⟩};·cases hf
theorem Rq{S S':ah}{s:Nat}(h:kC S s=some S'):S'.n=S.n:=by
 unfold kC k5 at h
 repeat'(first
  |(simp only[reduceCtorEq]at h;done)
  |(simp only[GE]at h;subst h;rfl)
  |split at h)
theorem BI:∀{l:List Nat}{S S':ah},iJ l S=some S'→S'.n=S.n|[],S,S',h=>by{simp only[iJ,GE]at h;rw[h]}|s::l,S,S',h=>by obtain⟨aZ,h1,h2⟩:=Option.bind_eq_some_iff.1 h;rw[BI h2,Rq h1]
theorem aW.iJ:∀{l:List Nat}{S S':ah},aW C E S a w→Ab.iJ l S=some S'→aW C E S' a w|[],S,S',h,e=>by{simp only[Ab.iJ,GE]at e;rw[←e];exact h}|s::l,S,S',h,e=>by obtain⟨aZ,h1,h2⟩:=Option.bind_eq_some_iff.1 e;obtain⟨β,F,hS⟩:=h;obtain⟨F',jc⟩:=hS.kC h1;exact aW.iJ ⟨β,F',jc⟩ h2
theorem WO(h:aW C E S a w){p s:Nat}{S':ah}(hf:nh p S s=some S'):aW C E S' a w:=by obtain⟨β,F,h⟩:=h;unfold nh at hf;split at hf;·{rename_i id acd abm hs;split at hf;·{rename_i r hid;split at hf;·{simp only[GE]at hf;subst hf;exact⟨β,F,h⟩};·split at hf;·{rename_i hc;simp only[GE]at hf;subst hf;have hv:=h.slot s;rw[hs]at hv;obtain⟨_,b,o,sz,n,hb,_⟩:=hv.lp;have e1:(r.drop 0).take r.length=r:=by{simp};obtain⟨β',F',vs,hS,_⟩:=h.Fo (p:=[p,s]) (row:=0) (off:=0) (n:=r.length) hid hb rfl (by omega) (by rw[e1];exact hc.2) (fun q hq=>h.ns s hc.1 (q++[p]) (by simpa using hq));rw[e1]at hS;simp only[List.set_cons_zero,List.take_zero,List.nil_append,Nat.zero_add,List.drop_length,List.append_nil]at hS;exact⟨β',F',hS⟩};·cases hf};·cases hf};·cases hf
theorem WN{S S':ah}{p s:Nat}(h:nh p S s=some S'):S'.n=S.n:=by
 unfold nh at h
 repeat'(first
  |(simp only[reduceCtorEq]at h;done)
  |(simp only[GE]at h;subst h;rfl)
  |split at h)
theorem JV:∀{l:List Nat}{p:Nat}{S S':ah},jL p l S=some S'→S'.n=S.n|[],_,S,S',h=>by{simp only[jL,GE]at h;rw[h]}|s::l,p,S,S',h=>by obtain⟨aZ,h1,h2⟩:=Option.bind_eq_some_iff.1 h;rw[JV h2,WN h1]
theorem aW.jL:∀{l:List Nat}{p:Nat}{S S':ah},aW C E S a w→Ab.jL p l S=some S'→aW C E S' a w|[],_,S,S',h,e=>by{simp only[Ab.jL,GE]at e;rw[←e];exact h}|s::l,p,S,S',h,e=>by obtain⟨aZ,h1,h2⟩:=Option.bind_eq_some_iff.1 e;exact aW.jL (WO h h1) h2
theorem P1{f:FuncId}{id:Nat}{S S':ah}(h:lU C f id S=some S'):S'.n=S.n:=by obtain⟨eG,h0,h⟩:=Option.bind_eq_some_iff.1 h;obtain⟨aZ,h1,h2⟩:=Option.bind_eq_some_iff.1 h;rw[s8 h2,BI h1,JV h0]
theorem aW.lU{f:FuncId}{id:Nat}(ho:∀b l,C.gY f id=some (b,l)→eE l){S S':ah}(h:aW C E S a w)(hc:Ab.lU C f id S=some S'):aW C E S' a w:=by obtain⟨eG,h0,hc⟩:=Option.bind_eq_some_iff.1 hc;obtain⟨aZ,h1,h2⟩:=Option.bind_eq_some_iff.1 hc;exact(aW.iJ (aW.jL h h0) h1).cut ho h2
structure nv(C:aB):Prop where
 r:∀f i b l,C.gY f i=some (b,l)→eE l
 b:∀f i b l,C.lT f i=some (b,l)→eE l
 s:∀f i b l,C.yR f i=some (b,l)→eE l
theorem nv.seq(h:nv C){c:Code}:∀b l,fN C f c=some (b,l)→eE l:=by unfold fN;split;·{exact h.s f _};·intro b l e;cases e
end
end Go.Ab
