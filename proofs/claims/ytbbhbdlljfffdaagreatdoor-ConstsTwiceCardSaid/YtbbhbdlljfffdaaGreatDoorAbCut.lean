import Derived.Test.YtbbhbdlljfffdaaGreatDoorAbDraw
open Option.some renaming injEq→GE
set_option linter.all false
namespace Go.Ab
open Go
section
variable{C:av}{E:Env}{w:World}{S:ah}{a:Act}{β:Id→Option Loc}{F:Id→List Nat}
variable{f:FuncId}{call:FuncId→List U→Option (U×List U)}
theorem F5(h:ax C E w S a β F):∀{slots:List Nat}{x},gR S.h S.t slots=some x→
  ∃fp rest,ak w (aq E w F) aX fp (slots.map (a.tmps.getD · undef)) x.1∧(fp++rest).Perm (x.2.flatMap F)
 |[],x,hx=>by
  simp[gR]at hx;subst hx
  exact⟨[],[], .nil,by simp⟩
 |s::l,x,hx=>by
  simp only[gR,Option.bind_eq_some_iff,Option.map_eq_some_iff]at hx
  obtain⟨y,hy,z,hz,rfl⟩:=hx
  obtain⟨jf,r1,g1,g2⟩:=rf h.obj 9 _ _ hy _ _ (h.slot s)
  obtain⟨gH,r2,g3,g4⟩:=F5 h hz
  refine⟨jf++gH,r1++r2, .cons g1 g3, ?_⟩
  have :=ot (f1:=[]) (f2:=[]) g2 (by simpa using g4)
  simpa[List.flatMap_append]using this
theorem ax.gz(h:ax C E w S a β F){slots:List Nat}{bB:List U}(hs:eA slots)(hr:gz S slots=some bB):aO C E (aC S.n slots bB) a w:=by unfold Ab.gz at hr;split at hr;·{rename_i NH ids hp;split at hr;·{rename_i hnd;simp only[GE]at hr;subst hr;obtain⟨fp,rest,g1,g2⟩:=F5 h hp;have hmem:∀b∈fp,∃id,b∈F id:=fun b hb=>by{obtain⟨id,_,hid⟩:=List.mem_flatMap.1 (vP g2 hb);exact⟨id,hid⟩};refine ax.enter (I:=aq E w F) h.n h.df g1 hs.nd (B6 g2 (xE h (vF hnd))) (fun b hb=>⟨hb.1,hb.2.1,fun hm=> ?_⟩) (fun b hb=> ?_) h.kept (fun g cs hg=>(h.bM g cs hg).mm rfl fun _ h=>h) h.ns hs.y8;·{obtain⟨id,hid⟩:=hmem b hm;exact hb.2.2 id hid};·obtain⟨id,hid⟩:=hmem b hb;exact h.lt id b hid};·cases hr};·cases hr
theorem uI{o:Option (Bool×List Nat)}{S S':ah}(h:c7 o S=some S'):S'.n=S.n:=by unfold c7 at h;split at h;·{simp only[GE]at h;rw[h]};·{exact FO h};·obtain⟨t,_,rfl⟩:=Option.map_eq_some_iff.1 h;exact vB ..
theorem aO.cut{o:Option (Bool×List Nat)}(ho:∀b l,o=some (b,l)→eA l){S S':ah}(h:aO C E S a w)(hc:c7 o S=some S'):aO C E S' a w:=by unfold c7 at hc;split at hc;·{simp only[GE]at hc;rw[←hc];exact h};·{obtain⟨β,F,hS⟩:=h;exact hS.norm (ho _ _ rfl) hc};·obtain⟨t,h1,rfl⟩:=Option.map_eq_some_iff.1 hc;obtain⟨β,F,hS⟩:=h;exact hS.gz (ho _ _ rfl) h1
theorem ax.l6(h:ax C E w S a β F){s:Nat}{S':ah}(hf:Ab.l6 S s=some S'):∃F',ax C E w S' a β F':=by unfold Ab.l6 at hf;split at hf;(case h_2=>cases hf);rename_i v ids hpk;split at hf;(case isFalse=>cases hf);rename_i hnd;simp only[GE]at hf;subst hf;obtain⟨fp,rest,g1,g2⟩:=rf h.obj 9 _ _ hpk _ _ (h.slot s);simp only[List.nil_append]at g2;have hmem:∀b∈fp,∃id∈ids,b∈F id:=fun b hb=>by{obtain⟨id,h1,hid⟩:=List.mem_flatMap.1 (vP g2 hb);exact⟨id,h1,hid⟩};let F':Id→List Nat:=fun i=>if i∈ids then[]else F i;have hsub:∀i b,b∈F' i→b∈F i:=fun i b hb=>by{by_cases e:i∈ids;·{simp[F',e]at hb};·simpa[F',e]using hb};have hI:∀b,aq E w F b→aq E w F' b:=fun b hb=>⟨hb.1,hb.2.1,fun i hm=>hb.2.2 i (hsub i b hm)⟩;have VK:∀b∈fp,aq E w F' b:=fun b hb=>by{obtain⟨id,hid,nh⟩:=hmem b hb;refine⟨(h.lt id b nh).2.elim (fun h=> .inr (.inl h)) (fun h=> .inr (.inr h)),(h.lt id b nh).1,fun i hm=> ?_⟩;by_cases e:i∈ids;·{simp[F',e]at hm};·have:=h.ck i id b (hsub i b hm) nh;subst this;exact e hid};have fh:∀{β':Id→Option Loc}{f:List Nat}{v:Value}{x:U},R w (aq E w F) β' f v x→R w (aq E w F') β' f v x:=fun hr=>hr.mono hI (fun _ _=>rfl) (fun _ _ h=>h);have n7:∀i rows,aI S.h (ids.map fun i=>(i,none)) i=some (some rows)→i∉ids∧S.h i=some (some rows):=fun i rows hr=>by{rcases eP S.h (ids.map fun i=>(i,none)) i with⟨x,hx,e1,e2⟩|⟨h1,h2⟩;·{obtain⟨j,hj,rfl⟩:=List.mem_map.1 hx;rw[e2]at hr;cases hr};·refine⟨fun hm=>h1 (i,none) (List.mem_map.2 ⟨i,hm,rfl⟩) rfl, ?_⟩;rw[h2]at hr;exact hr};have hnone:∀i,aI S.h (ids.map fun i=>(i,none)) i=none→S.h i=none:=fun i hr=>by{rcases eP S.h (ids.map fun i=>(i,none)) i with⟨x,hx,e1,e2⟩|⟨h1,h2⟩;·{rw[e2]at hr;cases hr};·rw[h2]at hr;exact hr};have hal:∀i rows,i∉ids→S.h i=some (some rows)→aI S.h (ids.map fun i=>(i,none)) i=some (some rows):=fun i rows hni hr=>by{rcases eP S.h (ids.map fun i=>(i,none)) i with⟨x,hx,e1,e2⟩|⟨h1,h2⟩;·{obtain⟨j,hj,rfl⟩:=List.mem_map.1 hx;exact absurd (show i∈ids from e1▸hj) hni};·rw[h2];exact hr};refine⟨F', ?_⟩;refine{n:=h.n,df:=h.df.mono (fun b hb=>⟨hI b hb.1,hb.2⟩) (fun _ _=>rfl),slot:=fun t=> ?_,obj:=fun i r hr=> ?_,dead:=fun i hi'=> ?_,nd:=fun i=> ?_,ck:=fun i j b hb hb'=>h.ck i j b (hsub i b hb) (hsub j b hb'),dom:=fun i hi'=>h.dom i (hnone i hi'),lt:=fun i b hb=>h.lt i b (hsub i b hb),kept:=h.kept,bM:=fun g cs hg=>fh (h.bM g cs hg),ns:=h.ns,kb:=fun k r hk hr=>h.kb k r hk (n7 k r hr).2};·{by_cases e:t=s;·{subst e;simp only[ai,if_true];exact((g1.cI (fun b hb=>hI b hb) VK).mono (fun _ h=>h) (fun _ _=>rfl) tn)};·simp only[ai,Do e];exact fh (h.slot t)};·{obtain⟨e,hr'⟩:=n7 i r hr;have:=(h.obj i r hr').mono (w':=w) (I':=aq E w F') (β':=β) hI (fun _ _=>rfl) (fun _ _ h=>h);simpa[F',e]using this};·{by_cases e:i∈ids;·{simp[F',e]};·simp only[F',Do e];exact h.dead i fun r hr=>hi' r (hal i r e hr)};·by_cases e:i∈ids;·{simp[F',e]};·simpa[F',e]using h.nd i
theorem ax.l5(h:ax C E w S a β F){s:Nat}{S':ah}(hf:Ab.l5 S s=some S'):∃F',ax C E w S' a β F':=by unfold Ab.l5 at hf;split at hf;·{rename_i id hs;split at hf;·{rename_i cells hid;split at hf;·{rename_i hi;simp only[GE]at hf;subst hf;have sR:=h.obj id [cells] hid;let F':Id→List Nat:=fun i=>if i=id then[]else F i;have hsub:∀i b,b∈F' i→b∈F i:=fun i b hb=>by{by_cases e:i=id;·{simp[F',e]at hb};·simpa[F',e]using hb};have hI:∀b,aq E w F b→aq E w F' b:=fun b hb=>⟨hb.1,hb.2.1,fun i hm=>hb.2.2 i (hsub i b hm)⟩;have fh:∀{β':Id→Option Loc}{f:List Nat}{v:Value}{x:U},R w (aq E w F) β' f v x→R w (aq E w F') β' f v x:=fun hr=>hr.mono hI (fun _ _=>rfl) (fun _ _ h=>h);refine⟨F', ?_⟩;refine{n:=h.n,df:=h.df.mono (fun b hb=>⟨hI b hb.1,hb.2⟩) (fun _ _=>rfl),slot:=fun t=> ?_,obj:=fun i r hr=> ?_,dead:=fun i hi'=> ?_,nd:=fun i=> ?_,ck:=fun i j b hb hb'=>h.ck i j b (hsub i b hb) (hsub j b hb'),dom:=fun i hi'=> ?_,lt:=fun i b hb=>h.lt i b (hsub i b hb),kept:=h.kept,bM:=fun g cs hg=>fh (h.bM g cs hg),ns:=h.ns,kb:=fun k r hk hr=>h.kb k r hk (by by_cases e:k=id;·{subst e;simp[ai]at hr};·simpa[ai,e]using hr)};·{by_cases e:t=s;·{subst e;have hv:=h.slot t;rw[hs]at hv;simp only[ai,if_true];obtain⟨_,b,o,sz,n,hb,hv⟩:=hv.lz;obtain⟨vs,bX,ff,hB,⟨_,hrows⟩,Ws,bh,hl⟩:=sR.at hb;simp only[List.flatten_cons,List.flatten_nil,List.append_nil]at hl;have n9:ak w (aq E w F) aX bX vs cells:=R.kK hl (by simpa[en]using hi);have x5:bX=[]:=R.Fl hl (by simpa[en]using hi);subst x5;have nh:b∈F id:=by{rw[ff];exact List.mem_cons_self .. };have n5:aq E w F' b:=⟨(h.lt id b nh).2.elim (fun h=> .inr (.inl h)) (fun h=> .inr (.inr h)),(h.lt id b nh).1,fun i hm=>by by_cases e:i=id;·{simp[F',e]at hm};·exact e (h.ck i id b (hsub i b hm) nh)⟩;rw[hv,Nat.zero_mul,Nat.add_zero];exact .ay n5 bh (fh n9)};·simp only[ai,Do e];exact fh (h.slot t)};·{by_cases e:i=id;·{subst e;simp[ai]at hr};·simp only[ai,Do e]at hr;have:=(h.obj i r hr).mono (w':=w) (I':=aq E w F') (β':=β) hI (fun _ _=>rfl) (fun _ _ h=>h);simpa[F',e]using this};·{by_cases e:i=id;·{simp[F',e]};·simp only[F',Do e];refine h.dead i fun r hr=>hi' r ?_;simp[ai,e,hr]};·{by_cases e:i=id;·{simp[F',e]};·simpa[F',e]using h.nd i};·by_cases e:i=id;·{subst e;simp[ai]at hi'};·simp only[ai,Do e]at hi';exact h.dom i hi'};·cases hf};·cases hf};·{exact h.l6 hf};·{exact h.l6 hf};·{exact h.l6 hf};·{simp only[GE]at hf;subst hf;exact⟨F,h⟩};·cases hf
theorem UL{S S':ah}{s:Nat}(h:l5 S s=some S'):S'.n=S.n:=by
 unfold l5 l6 at h
 repeat'(first
  |(simp only[reduceCtorEq]at h;done)
  |(simp only[GE]at h;subst h;rfl)
  |split at h)
theorem DW:∀{l:List Nat}{S S':ah},iP l S=some S'→S'.n=S.n|[],S,S',h=>by{simp only[iP,GE]at h;rw[h]}|s::l,S,S',h=>by obtain⟨aT,h1,h2⟩:=Option.bind_eq_some_iff.1 h;rw[DW h2,UL h1]
theorem aO.iP:∀{l:List Nat}{S S':ah},aO C E S a w→Ab.iP l S=some S'→aO C E S' a w|[],S,S',h,e=>by{simp only[Ab.iP,GE]at e;rw[←e];exact h}|s::l,S,S',h,e=>by obtain⟨aT,h1,h2⟩:=Option.bind_eq_some_iff.1 e;obtain⟨β,F,hS⟩:=h;obtain⟨F',jg⟩:=hS.l5 h1;exact aO.iP ⟨β,F',jg⟩ h2
theorem aal(h:aO C E S a w){p s:Nat}{S':ah}(hf:pN p S s=some S'):aO C E S' a w:=by obtain⟨β,F,h⟩:=h;unfold pN at hf;split at hf;·{rename_i id agC afP hs;split at hf;·{rename_i r hid;split at hf;·{simp only[GE]at hf;subst hf;exact⟨β,F,h⟩};·split at hf;·{rename_i hc;simp only[GE]at hf;subst hf;have hv:=h.slot s;rw[hs]at hv;obtain⟨_,b,o,sz,n,hb,_⟩:=hv.lz;have e1:(r.drop 0).take r.length=r:=by{simp};obtain⟨β',F',vs,hS,_⟩:=h.Hs (p:=[p,s]) (row:=0) (off:=0) (n:=r.length) hid hb rfl (by omega) (by rw[e1];exact hc.2) (fun q hq=>h.ns s hc.1 (q++[p]) (by simpa using hq));rw[e1]at hS;simp only[List.set_cons_zero,List.take_zero,List.nil_append,Nat.zero_add,List.drop_length,List.append_nil]at hS;exact⟨β',F',hS⟩};·cases hf};·cases hf};·cases hf
theorem aak{S S':ah}{p s:Nat}(h:pN p S s=some S'):S'.n=S.n:=by
 unfold pN at h
 repeat'(first
  |(simp only[reduceCtorEq]at h;done)
  |(simp only[GE]at h;subst h;rfl)
  |split at h)
theorem Mn:∀{l:List Nat}{p:Nat}{S S':ah},jI p l S=some S'→S'.n=S.n|[],_,S,S',h=>by{simp only[jI,GE]at h;rw[h]}|s::l,p,S,S',h=>by obtain⟨aT,h1,h2⟩:=Option.bind_eq_some_iff.1 h;rw[Mn h2,aak h1]
theorem aO.jI:∀{l:List Nat}{p:Nat}{S S':ah},aO C E S a w→Ab.jI p l S=some S'→aO C E S' a w|[],_,S,S',h,e=>by{simp only[Ab.jI,GE]at e;rw[←e];exact h}|s::l,p,S,S',h,e=>by obtain⟨aT,h1,h2⟩:=Option.bind_eq_some_iff.1 e;exact aO.jI (aal h h1) h2
theorem Ta{f:FuncId}{id:Nat}{S S':ah}(h:lU C f id S=some S'):S'.n=S.n:=by obtain⟨eD,h0,h⟩:=Option.bind_eq_some_iff.1 h;obtain⟨aT,h1,h2⟩:=Option.bind_eq_some_iff.1 h;rw[uI h2,DW h1,Mn h0]
theorem aO.lU{f:FuncId}{id:Nat}(ho:∀b l,C.gZ f id=some (b,l)→eA l){S S':ah}(h:aO C E S a w)(hc:Ab.lU C f id S=some S'):aO C E S' a w:=by obtain⟨eD,h0,hc⟩:=Option.bind_eq_some_iff.1 hc;obtain⟨aT,h1,h2⟩:=Option.bind_eq_some_iff.1 hc;exact(aO.iP (aO.jI h h0) h1).cut ho h2
structure nI(C:av):Prop where
 r:∀f i b l,C.gZ f i=some (b,l)→eA l
 b:∀f i b l,C.lT f i=some (b,l)→eA l
 s:∀f i b l,C.AR f i=some (b,l)→eA l
theorem nI.seq(h:nI C){c:Code}:∀b l,fK C f c=some (b,l)→eA l:=by unfold fK;split;·{exact h.s f _};·intro b l e;cases e
end
end Go.Ab
