import Derived.Test.YtbbhbdlljfffdaaGreatDoorAbDraw
open Option.some renaming injEq→AC
set_option linter.all false
namespace Go.Ab
open Go
section
variable{C:aF}{E:Env}{w:World}{S:ah}{a:Act}{β:Id→Option Loc}{F:Id→List Nat}
variable{f:FuncId}{call:FuncId→List U→Option (U×List U)}
theorem KM(h:aL C E w S a β F):∀{slots:List Nat}{x},jN S.h S.t slots=some x→
  ∃fp rest,av w (az E w F) bS fp (slots.map (a.tmps.getD · undef)) x.1∧(fp++rest).Perm (x.2.flatMap F)
 |[],x,hx=>by
  simp[jN]at hx;subst hx
  exact⟨[],[], .nil,by simp⟩
 |s::l,x,hx=>by
  simp only[jN,Option.bind_eq_some_iff,Option.map_eq_some_iff]at hx
  obtain⟨y,hy,z,hz,rfl⟩:=hx
  obtain⟨lD,r1,g1,g2⟩:=uX h.obj 9 _ _ hy _ _ (h.slot s)
  obtain⟨jD,r2,g3,g4⟩:=KM h hz
  refine⟨lD++jD,r1++r2, .cons g1 g3, ?_⟩
  have :=rN (f1:=[]) (f2:=[]) g2 (by simpa using g4)
  simpa[List.flatMap_append]using this
theorem aL.jv(h:aL C E w S a β F){slots:List Nat}{cj:List U}(hs:fB slots)(hr:jv S slots=some cj):bu C E (aO S.n slots cj) a w:=by unfold Ab.jv at hr;split at hr;·{rename_i Tt ids hp;split at hr;·{rename_i hnd;simp only[AC]at hr;subst hr;obtain⟨fp,rest,g1,g2⟩:=KM h hp;have hmem:∀b∈fp,∃id,b∈F id:=fun b hb=>by{obtain⟨id,_,hid⟩:=List.mem_flatMap.1 (zW g2 hb);exact⟨id,hid⟩};refine aL.enter (I:=az E w F) h.n h.df g1 hs.nd (F6 g2 (Bj h (zN hnd))) (fun b hb=>⟨hb.1,hb.2.1,fun hm=> ?_⟩) (fun b hb=> ?_) h.kept (fun g cs hg=>(h.cw g cs hg).o8 rfl fun _ h=>h) h.ns hs.CJ;·{obtain⟨id,hid⟩:=hmem b hm;exact hb.2.2 id hid};·obtain⟨id,hid⟩:=hmem b hb;exact h.lt id b hid};·cases hr};·cases hr
theorem yE{o:Option (Bool×List Nat)}{S S':ah}(h:dn o S=some S'):S'.n=S.n:=by unfold dn at h;split at h;·{simp only[AC]at h;rw[h]};·{exact Kz h};·obtain⟨t,_,rfl⟩:=Option.map_eq_some_iff.1 h;exact zJ ..
theorem bu.cut{o:Option (Bool×List Nat)}(ho:∀b l,o=some (b,l)→fB l){S S':ah}(h:bu C E S a w)(hc:dn o S=some S'):bu C E S' a w:=by unfold dn at hc;split at hc;·{simp only[AC]at hc;rw[←hc];exact h};·{obtain⟨β,F,hS⟩:=h;exact hS.norm (ho _ _ rfl) hc};·obtain⟨t,h1,rfl⟩:=Option.map_eq_some_iff.1 hc;obtain⟨β,F,hS⟩:=h;exact hS.jv (ho _ _ rfl) h1
theorem aL.nU(h:aL C E w S a β F){s:Nat}{S':ah}(hf:Ab.nU S s=some S'):∃F',aL C E w S' a β F':=by unfold Ab.nU at hf;split at hf;(case h_2=>cases hf);rename_i v ids hpk;split at hf;(case isFalse=>cases hf);rename_i hnd;simp only[AC]at hf;subst hf;obtain⟨fp,rest,g1,g2⟩:=uX h.obj 9 _ _ hpk _ _ (h.slot s);simp only[List.nil_append]at g2;have hmem:∀b∈fp,∃id∈ids,b∈F id:=fun b hb=>by{obtain⟨id,h1,hid⟩:=List.mem_flatMap.1 (zW g2 hb);exact⟨id,h1,hid⟩};let F':Id→List Nat:=fun i=>if i∈ids then[]else F i;have hsub:∀i b,b∈F' i→b∈F i:=fun i b hb=>by{by_cases e:i∈ids;·{simp[F',e]at hb};·simpa[F',e]using hb};have hI:∀b,az E w F b→az E w F' b:=fun b hb=>⟨hb.1,hb.2.1,fun i hm=>hb.2.2 i (hsub i b hm)⟩;have abv:∀b∈fp,az E w F' b:=fun b hb=>by{obtain⟨id,hid,qg⟩:=hmem b hb;refine⟨(h.lt id b qg).2.elim (fun h=> .inr (.inl h)) (fun h=> .inr (.inr h)),(h.lt id b qg).1,fun i hm=> ?_⟩;by_cases e:i∈ids;·{simp[F',e]at hm};·have:=h.cV i id b (hsub i b hm) qg;subst this;exact e hid};have gD:∀{β':Id→Option Loc}{f:List Nat}{v:Value}{x:U},R w (az E w F) β' f v x→R w (az E w F') β' f v x:=fun hr=>hr.mono hI (fun _ _=>rfl) (fun _ _ h=>h);have ry:∀i rows,bk S.h (ids.map fun i=>(i,none)) i=some (some rows)→i∉ids∧S.h i=some (some rows):=fun i rows hr=>by{rcases fV S.h (ids.map fun i=>(i,none)) i with⟨x,hx,e1,e2⟩|⟨h1,h2⟩;·{obtain⟨j,hj,rfl⟩:=List.mem_map.1 hx;rw[e2]at hr;cases hr};·refine⟨fun hm=>h1 (i,none) (List.mem_map.2 ⟨i,hm,rfl⟩) rfl, ?_⟩;rw[h2]at hr;exact hr};have hnone:∀i,bk S.h (ids.map fun i=>(i,none)) i=none→S.h i=none:=fun i hr=>by{rcases fV S.h (ids.map fun i=>(i,none)) i with⟨x,hx,e1,e2⟩|⟨h1,h2⟩;·{rw[e2]at hr;cases hr};·rw[h2]at hr;exact hr};have hal:∀i rows,i∉ids→S.h i=some (some rows)→bk S.h (ids.map fun i=>(i,none)) i=some (some rows):=fun i rows hni hr=>by{rcases fV S.h (ids.map fun i=>(i,none)) i with⟨x,hx,e1,e2⟩|⟨h1,h2⟩;·{obtain⟨j,hj,rfl⟩:=List.mem_map.1 hx;exact absurd (show i∈ids from e1▸hj) hni};·rw[h2];exact hr};refine⟨F', ?_⟩;refine{n:=h.n,df:=h.df.mono (fun b hb=>⟨hI b hb.1,hb.2⟩) (fun _ _=>rfl),slot:=fun t=> ?_,obj:=fun i r hr=> ?_,dead:=fun i hi'=> ?_,nd:=fun i=> ?_,cV:=fun i j b hb hb'=>h.cV i j b (hsub i b hb) (hsub j b hb'),dom:=fun i hi'=>h.dom i (hnone i hi'),lt:=fun i b hb=>h.lt i b (hsub i b hb),kept:=h.kept,cw:=fun g cs hg=>gD (h.cw g cs hg),ns:=h.ns,kb:=fun k r hk hr=>h.kb k r hk (ry k r hr).2};·{by_cases e:t=s;·{subst e;simp only[ak,if_true];exact((g1.dJ (fun b hb=>hI b hb) abv).mono (fun _ h=>h) (fun _ _=>rfl) xm)};·simp only[ak,if_neg e];exact gD (h.slot t)};·{obtain⟨e,hr'⟩:=ry i r hr;have:=(h.obj i r hr').mono (w':=w) (I':=az E w F') (β':=β) hI (fun _ _=>rfl) (fun _ _ h=>h);simpa[F',e]using this};·{by_cases e:i∈ids;·{simp[F',e]};·simp only[F',if_neg e];exact h.dead i fun r hr=>hi' r (hal i r e hr)};·by_cases e:i∈ids;·{simp[F',e]};·simpa[F',e]using h.nd i
theorem aL.nk(h:aL C E w S a β F){s:Nat}{S':ah}(hf:Ab.nk S s=some S'):∃F',aL C E w S' a β F':=by unfold Ab.nk at hf;split at hf;·{rename_i id hs;split at hf;·{rename_i cells hid;split at hf;·{rename_i hi;simp only[AC]at hf;subst hf;have wN:=h.obj id [cells] hid;let F':Id→List Nat:=fun i=>if i=id then[]else F i;have hsub:∀i b,b∈F' i→b∈F i:=fun i b hb=>by{by_cases e:i=id;·{simp[F',e]at hb};·simpa[F',e]using hb};have hI:∀b,az E w F b→az E w F' b:=fun b hb=>⟨hb.1,hb.2.1,fun i hm=>hb.2.2 i (hsub i b hm)⟩;have gD:∀{β':Id→Option Loc}{f:List Nat}{v:Value}{x:U},R w (az E w F) β' f v x→R w (az E w F') β' f v x:=fun hr=>hr.mono hI (fun _ _=>rfl) (fun _ _ h=>h);refine⟨F', ?_⟩;refine{n:=h.n,df:=h.df.mono (fun b hb=>⟨hI b hb.1,hb.2⟩) (fun _ _=>rfl),slot:=fun t=> ?_,obj:=fun i r hr=> ?_,dead:=fun i hi'=> ?_,nd:=fun i=> ?_,cV:=fun i j b hb hb'=>h.cV i j b (hsub i b hb) (hsub j b hb'),dom:=fun i hi'=> ?_,lt:=fun i b hb=>h.lt i b (hsub i b hb),kept:=h.kept,cw:=fun g cs hg=>gD (h.cw g cs hg),ns:=h.ns,kb:=fun k r hk hr=>h.kb k r hk (by by_cases e:k=id;·{subst e;simp[ak]at hr};·simpa[ak,e]using hr)};·{by_cases e:t=s;·{subst e;have hv:=h.slot t;rw[hs]at hv;simp only[ak,if_true];obtain⟨_,b,o,sz,n,hb,hv⟩:=hv.ob;obtain⟨vs,cD,fJ,hB,⟨_,hrows⟩,acs,bZ,hl⟩:=wN.at hb;simp only[List.flatten_cons,List.flatten_nil,List.append_nil]at hl;have uo:av w (az E w F) bS cD vs cells:=R.nv hl (by simpa[ff]using hi);have BL:cD=[]:=R.JY hl (by simpa[ff]using hi);subst BL;have qg:b∈F id:=by{rw[fJ];exact List.mem_cons_self .. };have rj:az E w F' b:=⟨(h.lt id b qg).2.elim (fun h=> .inr (.inl h)) (fun h=> .inr (.inr h)),(h.lt id b qg).1,fun i hm=>by by_cases e:i=id;·{simp[F',e]at hm};·exact e (h.cV i id b (hsub i b hm) qg)⟩;rw[hv,Nat.zero_mul,Nat.add_zero];exact .aI rj bZ (gD uo)};·simp only[ak,if_neg e];exact gD (h.slot t)};·{by_cases e:i=id;·{subst e;simp[ak]at hr};·simp only[ak,if_neg e]at hr;have:=(h.obj i r hr).mono (w':=w) (I':=az E w F') (β':=β) hI (fun _ _=>rfl) (fun _ _ h=>h);simpa[F',e]using this};·{by_cases e:i=id;·{simp[F',e]};·simp only[F',if_neg e];refine h.dead i fun r hr=>hi' r ?_;simp[ak,e,hr]};·{by_cases e:i=id;·{simp[F',e]};·simpa[F',e]using h.nd i};·by_cases e:i=id;·{subst e;simp[ak]at hi'};·simp only[ak,if_neg e]at hi';exact h.dom i hi'};·cases hf};·cases hf};·{exact h.nU hf};·{exact h.nU hf};·{exact h.nU hf};·{simp only[AC]at hf;subst hf;exact⟨F,h⟩};·cases hf
theorem aaq{S S':ah}{s:Nat}(h:nk S s=some S'):S'.n=S.n:=by
 unfold nk nU at h
 repeat'(first
  |(simp only[reduceCtorEq]at h;done)
  |(simp only[AC]at h;subst h;rfl)
  |split at h)
theorem Ih:∀{l:List Nat}{S S':ah},kO l S=some S'→S'.n=S.n|[],S,S',h=>by{simp only[kO,AC]at h;rw[h]}|s::l,S,S',h=>by obtain⟨bE,h1,h2⟩:=Option.bind_eq_some_iff.1 h;rw[Ih h2,aaq h1]
theorem bu.kO:∀{l:List Nat}{S S':ah},bu C E S a w→Ab.kO l S=some S'→bu C E S' a w|[],S,S',h,e=>by{simp only[Ab.kO,AC]at e;rw[←e];exact h}|s::l,S,S',h,e=>by obtain⟨bE,h1,h2⟩:=Option.bind_eq_some_iff.1 e;obtain⟨β,F,hS⟩:=h;obtain⟨F',lG⟩:=hS.nk h1;exact bu.kO ⟨β,F',lG⟩ h2
theorem agF(h:bu C E S a w){p s:Nat}{S':ah}(hf:qv p S s=some S'):bu C E S' a w:=by obtain⟨β,F,h⟩:=h;unfold qv at hf;split at hf;·{rename_i id amS amb hs;split at hf;·{rename_i r hid;split at hf;·{simp only[AC]at hf;subst hf;exact⟨β,F,h⟩};·split at hf;·{rename_i hc;simp only[AC]at hf;subst hf;have hv:=h.slot s;rw[hs]at hv;obtain⟨_,b,o,sz,n,hb,_⟩:=hv.ob;have e1:(r.drop 0).take r.length=r:=by{simp};obtain⟨β',F',vs,hS,_⟩:=h.Ml (p:=[p,s]) (row:=0) (off:=0) (n:=r.length) hid hb rfl (by omega) (by rw[e1];exact hc.2) (fun q hq=>h.ns s hc.1 (q++[p]) (by simpa using hq));rw[e1]at hS;simp only[List.set_cons_zero,List.take_zero,List.nil_append,Nat.zero_add,List.drop_length,List.append_nil]at hS;exact⟨β',F',hS⟩};·cases hf};·cases hf};·cases hf
theorem agE{S S':ah}{p s:Nat}(h:qv p S s=some S'):S'.n=S.n:=by
 unfold qv at h
 repeat'(first
  |(simp only[reduceCtorEq]at h;done)
  |(simp only[AC]at h;subst h;rfl)
  |split at h)
theorem RX:∀{l:List Nat}{p:Nat}{S S':ah},mg p l S=some S'→S'.n=S.n|[],_,S,S',h=>by{simp only[mg,AC]at h;rw[h]}|s::l,p,S,S',h=>by obtain⟨bE,h1,h2⟩:=Option.bind_eq_some_iff.1 h;rw[RX h2,agE h1]
theorem bu.mg:∀{l:List Nat}{p:Nat}{S S':ah},bu C E S a w→Ab.mg p l S=some S'→bu C E S' a w|[],_,S,S',h,e=>by{simp only[Ab.mg,AC]at e;rw[←e];exact h}|s::l,p,S,S',h,e=>by obtain⟨bE,h1,h2⟩:=Option.bind_eq_some_iff.1 e;exact bu.mg (agF h h1) h2
theorem YR{f:FuncId}{id:Nat}{S S':ah}(h:oQ C f id S=some S'):S'.n=S.n:=by obtain⟨fH,h0,h⟩:=Option.bind_eq_some_iff.1 h;obtain⟨bE,h1,h2⟩:=Option.bind_eq_some_iff.1 h;rw[yE h2,Ih h1,RX h0]
theorem bu.oQ{f:FuncId}{id:Nat}(ho:∀b l,C.jh f id=some (b,l)→fB l){S S':ah}(h:bu C E S a w)(hc:Ab.oQ C f id S=some S'):bu C E S' a w:=by obtain⟨fH,h0,hc⟩:=Option.bind_eq_some_iff.1 hc;obtain⟨bE,h1,h2⟩:=Option.bind_eq_some_iff.1 hc;exact(bu.kO (bu.mg h h0) h1).cut ho h2
structure qK(C:aF):Prop where
 r:∀f i b l,C.jh f i=some (b,l)→fB l
 b:∀f i b l,C.oP f i=some (b,l)→fB l
 s:∀f i b l,C.Ep f i=some (b,l)→fB l
theorem qK.seq(h:qK C){c:Code}:∀b l,hG C f c=some (b,l)→fB l:=by unfold hG;split;·{exact h.s f _};·intro b l e;cases e
end
end Go.Ab
