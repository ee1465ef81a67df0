import Derived.Test.YtbbhbdlljfffdaaGreatDoorAbDraw
open Option.some renaming injEq→AC
set_option linter.all false
namespace Go.Ab
open Go
section
variable{C:aG}{E:Env}{w:World}{S:ah}{a:Act}{β:Id→Option Loc}{F:Id→List Nat}
variable{f:FuncId}{call:FuncId→List U→Option (U×List U)}
theorem KH(h:aN C E w S a β F):∀{slots:List Nat}{x},jD S.h S.t slots=some x→
  ∃fp rest,av w (aA E w F) bR fp (slots.map (a.tmps.getD · undef)) x.1∧(fp++rest).Perm (x.2.flatMap F)
 |[],x,hx=>by
  simp[jD]at hx;subst hx
  exact⟨[],[], .nil,by simp⟩
 |s::l,x,hx=>by
  simp only[jD,Option.bind_eq_some_iff,Option.map_eq_some_iff]at hx
  obtain⟨y,hy,z,hz,rfl⟩:=hx
  obtain⟨k4,r1,g1,g2⟩:=uF h.obj 9 _ _ hy _ _ (h.slot s)
  obtain⟨jt,r2,g3,g4⟩:=KH h hz
  refine⟨k4++jt,r1++r2, .cons g1 g3, ?_⟩
  have :=ry (f1:=[]) (f2:=[]) g2 (by simpa using g4)
  simpa[List.flatMap_append]using this
theorem aN.jl(h:aN C E w S a β F){slots:List Nat}{cm:List U}(hs:fB slots)(hr:jl S slots=some cm):bx C E (aL S.n slots cm) a w:=by unfold Ab.jl at hr;split at hr;·{rename_i Th ids hp;split at hr;·{rename_i hnd;simp only[AC]at hr;subst hr;obtain⟨fp,rest,g1,g2⟩:=KH h hp;have hmem:∀b∈fp,∃id,b∈F id:=fun b hb=>by{obtain⟨id,_,hid⟩:=List.mem_flatMap.1 (zE g2 hb);exact⟨id,hid⟩};refine aN.enter (I:=aA E w F) h.n h.df g1 hs.nd (FY g2 (A5 h (zu hnd))) (fun b hb=>⟨hb.1,hb.2.1,fun hm=> ?_⟩) (fun b hb=> ?_) h.kept (fun g cs hg=>(h.cA g cs hg).oP rfl fun _ h=>h) h.ns hs.CB;·{obtain⟨id,hid⟩:=hmem b hm;exact hb.2.2 id hid};·obtain⟨id,hid⟩:=hmem b hb;exact h.lt id b hid};·cases hr};·cases hr
theorem yh{o:Option (Bool×List Nat)}{S S':ah}(h:dm o S=some S'):S'.n=S.n:=by unfold dm at h;split at h;·{simp only[AC]at h;rw[h]};·{exact Kt h};·obtain⟨t,_,rfl⟩:=Option.map_eq_some_iff.1 h;exact zn ..
theorem bx.cut{o:Option (Bool×List Nat)}(ho:∀b l,o=some (b,l)→fB l){S S':ah}(h:bx C E S a w)(hc:dm o S=some S'):bx C E S' a w:=by unfold dm at hc;split at hc;·{simp only[AC]at hc;rw[←hc];exact h};·{obtain⟨β,F,hS⟩:=h;exact hS.norm (ho _ _ rfl) hc};·obtain⟨t,h1,rfl⟩:=Option.map_eq_some_iff.1 hc;obtain⟨β,F,hS⟩:=h;exact hS.jl (ho _ _ rfl) h1
theorem aN.nH(h:aN C E w S a β F){s:Nat}{S':ah}(hf:Ab.nH S s=some S'):∃F',aN C E w S' a β F':=by unfold Ab.nH at hf;split at hf;(case h_2=>cases hf);rename_i v ids hpk;split at hf;(case isFalse=>cases hf);rename_i hnd;simp only[AC]at hf;subst hf;obtain⟨fp,rest,g1,g2⟩:=uF h.obj 9 _ _ hpk _ _ (h.slot s);simp only[List.nil_append]at g2;have hmem:∀b∈fp,∃id∈ids,b∈F id:=fun b hb=>by{obtain⟨id,h1,hid⟩:=List.mem_flatMap.1 (zE g2 hb);exact⟨id,h1,hid⟩};let F':Id→List Nat:=fun i=>if i∈ids then[]else F i;have hsub:∀i b,b∈F' i→b∈F i:=fun i b hb=>by{by_cases e:i∈ids;·{simp[F',e]at hb};·simpa[F',e]using hb};have hI:∀b,aA E w F b→aA E w F' b:=fun b hb=>⟨hb.1,hb.2.1,fun i hm=>hb.2.2 i (hsub i b hm)⟩;have abj:∀b∈fp,aA E w F' b:=fun b hb=>by{obtain⟨id,hid,pZ⟩:=hmem b hb;refine⟨(h.lt id b pZ).2.elim (fun h=> .inr (.inl h)) (fun h=> .inr (.inr h)),(h.lt id b pZ).1,fun i hm=> ?_⟩;by_cases e:i∈ids;·{simp[F',e]at hm};·have:=h.cY i id b (hsub i b hm) pZ;subst this;exact e hid};have gv:∀{β':Id→Option Loc}{f:List Nat}{v:Value}{x:U},R w (aA E w F) β' f v x→R w (aA E w F') β' f v x:=fun hr=>hr.mono hI (fun _ _=>rfl) (fun _ _ h=>h);have qW:∀i rows,bp S.h (ids.map fun i=>(i,none)) i=some (some rows)→i∉ids∧S.h i=some (some rows):=fun i rows hr=>by{rcases fS S.h (ids.map fun i=>(i,none)) i with⟨x,hx,e1,e2⟩|⟨h1,h2⟩;·{obtain⟨j,hj,rfl⟩:=List.mem_map.1 hx;rw[e2]at hr;cases hr};·refine⟨fun hm=>h1 (i,none) (List.mem_map.2 ⟨i,hm,rfl⟩) rfl, ?_⟩;rw[h2]at hr;exact hr};have hnone:∀i,bp S.h (ids.map fun i=>(i,none)) i=none→S.h i=none:=fun i hr=>by{rcases fS S.h (ids.map fun i=>(i,none)) i with⟨x,hx,e1,e2⟩|⟨h1,h2⟩;·{rw[e2]at hr;cases hr};·rw[h2]at hr;exact hr};have hal:∀i rows,i∉ids→S.h i=some (some rows)→bp S.h (ids.map fun i=>(i,none)) i=some (some rows):=fun i rows hni hr=>by{rcases fS S.h (ids.map fun i=>(i,none)) i with⟨x,hx,e1,e2⟩|⟨h1,h2⟩;·{obtain⟨j,hj,rfl⟩:=List.mem_map.1 hx;exact absurd (show i∈ids from e1▸hj) hni};·rw[h2];exact hr};refine⟨F', ?_⟩;refine{n:=h.n,df:=h.df.mono (fun b hb=>⟨hI b hb.1,hb.2⟩) (fun _ _=>rfl),slot:=fun t=> ?_,obj:=fun i r hr=> ?_,dead:=fun i hi'=> ?_,nd:=fun i=> ?_,cY:=fun i j b hb hb'=>h.cY i j b (hsub i b hb) (hsub j b hb'),dom:=fun i hi'=>h.dom i (hnone i hi'),lt:=fun i b hb=>h.lt i b (hsub i b hb),kept:=h.kept,cA:=fun g cs hg=>gv (h.cA g cs hg),ns:=h.ns,kb:=fun k r hk hr=>h.kb k r hk (qW k r hr).2};·{by_cases e:t=s;·{subst e;simp only[ak,if_true];exact((g1.dG (fun b hb=>hI b hb) abj).mono (fun _ h=>h) (fun _ _=>rfl) wY)};·simp only[ak,if_neg e];exact gv (h.slot t)};·{obtain⟨e,hr'⟩:=qW i r hr;have:=(h.obj i r hr').mono (w':=w) (I':=aA E w F') (β':=β) hI (fun _ _=>rfl) (fun _ _ h=>h);simpa[F',e]using this};·{by_cases e:i∈ids;·{simp[F',e]};·simp only[F',if_neg e];exact h.dead i fun r hr=>hi' r (hal i r e hr)};·by_cases e:i∈ids;·{simp[F',e]};·simpa[F',e]using h.nd i
theorem aN.mQ(h:aN C E w S a β F){s:Nat}{S':ah}(hf:Ab.mQ S s=some S'):∃F',aN C E w S' a β F':=by unfold Ab.mQ at hf;split at hf;·{rename_i id hs;split at hf;·{rename_i cells hid;split at hf;·{rename_i hi;simp only[AC]at hf;subst hf;have wk:=h.obj id [cells] hid;let F':Id→List Nat:=fun i=>if i=id then[]else F i;have hsub:∀i b,b∈F' i→b∈F i:=fun i b hb=>by{by_cases e:i=id;·{simp[F',e]at hb};·simpa[F',e]using hb};have hI:∀b,aA E w F b→aA E w F' b:=fun b hb=>⟨hb.1,hb.2.1,fun i hm=>hb.2.2 i (hsub i b hm)⟩;have gv:∀{β':Id→Option Loc}{f:List Nat}{v:Value}{x:U},R w (aA E w F) β' f v x→R w (aA E w F') β' f v x:=fun hr=>hr.mono hI (fun _ _=>rfl) (fun _ _ h=>h);refine⟨F', ?_⟩;refine{n:=h.n,df:=h.df.mono (fun b hb=>⟨hI b hb.1,hb.2⟩) (fun _ _=>rfl),slot:=fun t=> ?_,obj:=fun i r hr=> ?_,dead:=fun i hi'=> ?_,nd:=fun i=> ?_,cY:=fun i j b hb hb'=>h.cY i j b (hsub i b hb) (hsub j b hb'),dom:=fun i hi'=> ?_,lt:=fun i b hb=>h.lt i b (hsub i b hb),kept:=h.kept,cA:=fun g cs hg=>gv (h.cA g cs hg),ns:=h.ns,kb:=fun k r hk hr=>h.kb k r hk (by by_cases e:k=id;·{subst e;simp[ak]at hr};·simpa[ak,e]using hr)};·{by_cases e:t=s;·{subst e;have hv:=h.slot t;rw[hs]at hv;simp only[ak,if_true];obtain⟨_,b,o,sz,n,hb,hv⟩:=hv.nW;obtain⟨vs,cI,fN,hB,⟨_,hrows⟩,ace,b8,hl⟩:=wk.at hb;simp only[List.flatten_cons,List.flatten_nil,List.append_nil]at hl;have tX:av w (aA E w F) bR cI vs cells:=R.mW hl (by simpa[fo]using hi);have BA:cI=[]:=R.JR hl (by simpa[fo]using hi);subst BA;have pZ:b∈F id:=by{rw[fN];exact List.mem_cons_self .. };have qU:aA E w F' b:=⟨(h.lt id b pZ).2.elim (fun h=> .inr (.inl h)) (fun h=> .inr (.inr h)),(h.lt id b pZ).1,fun i hm=>by by_cases e:i=id;·{simp[F',e]at hm};·exact e (h.cY i id b (hsub i b hm) pZ)⟩;rw[hv,Nat.zero_mul,Nat.add_zero];exact .aD qU b8 (gv tX)};·simp only[ak,if_neg e];exact gv (h.slot t)};·{by_cases e:i=id;·{subst e;simp[ak]at hr};·simp only[ak,if_neg e]at hr;have:=(h.obj i r hr).mono (w':=w) (I':=aA E w F') (β':=β) hI (fun _ _=>rfl) (fun _ _ h=>h);simpa[F',e]using this};·{by_cases e:i=id;·{simp[F',e]};·simp only[F',if_neg e];refine h.dead i fun r hr=>hi' r ?_;simp[ak,e,hr]};·{by_cases e:i=id;·{simp[F',e]};·simpa[F',e]using h.nd i};·by_cases e:i=id;·{subst e;simp[ak]at hi'};·simp only[ak,if_neg e]at hi';exact h.dom i hi'};·cases hf};·cases hf};·{exact h.nH hf};·{exact h.nH hf};·{exact h.nH hf};·{simp only[AC]at hf;subst hf;exact⟨F,h⟩};·cases hf
theorem aal{S S':ah}{s:Nat}(h:mQ S s=some S'):S'.n=S.n:=by
 unfold mQ nH at h
 repeat'(first
  |(simp only[reduceCtorEq]at h;done)
  |(simp only[AC]at h;subst h;rfl)
  |split at h)
theorem Im:∀{l:List Nat}{S S':ah},kE l S=some S'→S'.n=S.n|[],S,S',h=>by{simp only[kE,AC]at h;rw[h]}|s::l,S,S',h=>by obtain⟨bD,h1,h2⟩:=Option.bind_eq_some_iff.1 h;rw[Im h2,aal h1]
theorem bx.kE:∀{l:List Nat}{S S':ah},bx C E S a w→Ab.kE l S=some S'→bx C E S' a w|[],S,S',h,e=>by{simp only[Ab.kE,AC]at e;rw[←e];exact h}|s::l,S,S',h,e=>by obtain⟨bD,h1,h2⟩:=Option.bind_eq_some_iff.1 e;obtain⟨β,F,hS⟩:=h;obtain⟨F',k7⟩:=hS.mQ h1;exact bx.kE ⟨β,F',k7⟩ h2
theorem agw(h:bx C E S a w){p s:Nat}{S':ah}(hf:qf p S s=some S'):bx C E S' a w:=by obtain⟨β,F,h⟩:=h;unfold qf at hf;split at hf;·{rename_i id amH al0 hs;split at hf;·{rename_i r hid;split at hf;·{simp only[AC]at hf;subst hf;exact⟨β,F,h⟩};·split at hf;·{rename_i hc;simp only[AC]at hf;subst hf;have hv:=h.slot s;rw[hs]at hv;obtain⟨_,b,o,sz,n,hb,_⟩:=hv.nW;have e1:(r.drop 0).take r.length=r:=by{simp};obtain⟨β',F',vs,hS,_⟩:=h.Mh (p:=[p,s]) (row:=0) (off:=0) (n:=r.length) hid hb rfl (by omega) (by rw[e1];exact hc.2) (fun q hq=>h.ns s hc.1 (q++[p]) (by simpa using hq));rw[e1]at hS;simp only[List.set_cons_zero,List.take_zero,List.nil_append,Nat.zero_add,List.drop_length,List.append_nil]at hS;exact⟨β',F',hS⟩};·cases hf};·cases hf};·cases hf
theorem agv{S S':ah}{p s:Nat}(h:qf p S s=some S'):S'.n=S.n:=by
 unfold qf at h
 repeat'(first
  |(simp only[reduceCtorEq]at h;done)
  |(simp only[AC]at h;subst h;rfl)
  |split at h)
theorem RO:∀{l:List Nat}{p:Nat}{S S':ah},lU p l S=some S'→S'.n=S.n|[],_,S,S',h=>by{simp only[lU,AC]at h;rw[h]}|s::l,p,S,S',h=>by obtain⟨bD,h1,h2⟩:=Option.bind_eq_some_iff.1 h;rw[RO h2,agv h1]
theorem bx.lU:∀{l:List Nat}{p:Nat}{S S':ah},bx C E S a w→Ab.lU p l S=some S'→bx C E S' a w|[],_,S,S',h,e=>by{simp only[Ab.lU,AC]at e;rw[←e];exact h}|s::l,p,S,S',h,e=>by obtain⟨bD,h1,h2⟩:=Option.bind_eq_some_iff.1 e;exact bx.lU (agw h h1) h2
theorem YR{f:FuncId}{id:Nat}{S S':ah}(h:oA C f id S=some S'):S'.n=S.n:=by obtain⟨fH,h0,h⟩:=Option.bind_eq_some_iff.1 h;obtain⟨bD,h1,h2⟩:=Option.bind_eq_some_iff.1 h;rw[yh h2,Im h1,RO h0]
theorem bx.oA{f:FuncId}{id:Nat}(ho:∀b l,C.jb f id=some (b,l)→fB l){S S':ah}(h:bx C E S a w)(hc:Ab.oA C f id S=some S'):bx C E S' a w:=by obtain⟨fH,h0,hc⟩:=Option.bind_eq_some_iff.1 hc;obtain⟨bD,h1,h2⟩:=Option.bind_eq_some_iff.1 hc;exact(bx.kE (bx.lU h h0) h1).cut ho h2
structure qv(C:aG):Prop where
 r:∀f i b l,C.jb f i=some (b,l)→fB l
 b:∀f i b l,C.oz f i=some (b,l)→fB l
 s:∀f i b l,C.Ek f i=some (b,l)→fB l
theorem qv.seq(h:qv C){c:Code}:∀b l,gT C f c=some (b,l)→fB l:=by unfold gT;split;·{exact h.s f _};·intro b l e;cases e
end
end Go.Ab
