import Derived.Test.YtbhpblokoecoaaaAbDraw
import Derived.Test.YtbhpblokoecoaaaAbWeak
namespace Go.Ab
open Go
section
variable{C:aV}{E:Env}{w:World}{S:an}{a:Act}{β:Id→Option Loc}{F:Id→List Nat}
variable{f:FuncId}{call:FuncId→List aa→Option (aa×List aa)}
theorem KG (h : aY C E w S a β F) : ∀ {slots : List Nat} {x}, jv S.h S.t slots = some x →
    ∃ fp rest, aJ w (aT E w F) cl fp (slots.map (a.tmps.getD · undef)) x.1 ∧ (fp ++ rest).Perm (x.2.flatMap F)
  | [], x, hx => by
    simp [jv] at hx; subst hx
    exact ⟨[], [], .nil, by simp⟩
  | s :: l, x, hx => by
    simp only [jv, Option.bind_eq_some_iff, Option.map_eq_some_iff] at hx
    obtain ⟨y, hy, z, hz, rfl⟩ := hx
    obtain ⟨kk, r1, g1, g2⟩ := sZ h.obj 9 _ _ hy _ _ (h.slot s)
    obtain ⟨jV, r2, g3, g4⟩ := KG h hz
    refine ⟨kk ++ jV, r1 ++ r2, .cons g1 g3, ?_⟩
    have := uW (f1 := []) (f2 := []) g2 (by simpa using g4)
    simpa [List.flatMap_append] using this
theorem aY.iF(h:aY C E w S a β F){slots:List Nat}{cc:List aa}(hs:slots.Nodup)(hr:iF S slots=some cc):bP C E (aF S.n slots cc) a w:=by unfold Ab.iF at hr;split at hr;·{rename_i R2 ids hp;split at hr;·{rename_i cD;simp only[Option.some.injEq]at hr;subst hr;obtain⟨fp,rest,g1,g2⟩:=KG h hp;have hmem:∀b∈fp,∃id,b∈F id:=fun b hb=>by{obtain⟨id,_,hid⟩:=List.mem_flatMap.1 (GA g2 hb);exact⟨id,hid⟩};refine aY.enter (I:=aT E w F) h.n h.df g1 hs (KI g2 (Fo h (Dn cD))) (fun b hb=>⟨hb.1,hb.2.1,fun hm=> ?_⟩) (fun b hb=> ?_) h.kept (fun g cs hg=>(h.cU g cs hg).qa rfl fun _ h=>h);·{obtain⟨id,hid⟩:=hmem b hm;exact hb.2.2 id hid};·obtain⟨id,hid⟩:=hmem b hb;exact h.lt id b hid};·cases hr};·cases hr
theorem yV{o:Option (Bool×List Nat)}{S S':an}(h:ei o S=some S'):S'.n=S.n:=by unfold ei at h;split at h;·{simp only[Option.some.injEq]at h;rw[h]};·{exact Kt h};·obtain⟨t,_,rfl⟩:=Option.map_eq_some_iff.1 h;exact Dl ..
theorem bP.cut{o:Option (Bool×List Nat)}(ho:∀b l,o=some (b,l)→l.Nodup){S S':an}(h:bP C E S a w)(hc:ei o S=some S'):bP C E S' a w:=by unfold ei at hc;split at hc;·{simp only[Option.some.injEq]at hc;rw[←hc];exact h};·{obtain⟨β,F,hS⟩:=h;exact hS.norm hc};·obtain⟨t,h1,rfl⟩:=Option.map_eq_some_iff.1 hc;obtain⟨β,F,hS⟩:=h;exact hS.iF (ho _ _ rfl) h1
theorem aY.qR(h:aY C E w S a β F){s:Nat}{S':an}(hf:Ab.qR S s=some S'):∃F',aY C E w S' a β F':=by unfold Ab.qR at hf;split at hf;·{rename_i id hs;split at hf;·{rename_i cells hid;split at hf;·{rename_i hi;simp only[Option.some.injEq]at hf;subst hf;have wO:=h.obj id [cells] hid;let F':Id→List Nat:=fun i=>if i=id then[]else F i;have hsub:∀i b,b∈F' i→b∈F i:=fun i b hb=>by{by_cases e:i=id;·{simp[F',e]at hb};·simpa[F',e]using hb};have hI:∀b,aT E w F b→aT E w F' b:=fun b hb=>⟨hb.1,hb.2.1,fun i hm=>hb.2.2 i (hsub i b hm)⟩;have iz:∀{β':Id→Option Loc}{f:List Nat}{v:Value}{x:aa},R w (aT E w F) β' f v x→R w (aT E w F') β' f v x:=fun hr=>hr.mono hI (fun _ _=>rfl) (fun _ _ h=>h);refine⟨F', ?_⟩;refine{n:=h.n,df:=h.df.mono (fun b hb=>⟨hI b hb.1,hb.2⟩) (fun _ _=>rfl),slot:=fun t=> ?_,obj:=fun i r hr=> ?_,dead:=fun i hi'=> ?_,nd:=fun i=> ?_,ej:=fun i j b hb hb'=>h.ej i j b (hsub i b hb) (hsub j b hb'),dom:=fun i hi'=> ?_,lt:=fun i b hb=>h.lt i b (hsub i b hb),kept:=h.kept,cU:=fun g cs hg=>iz (h.cU g cs hg)};·{by_cases e:t=s;·{subst e;have hv:=h.slot t;rw[hs]at hv;simp only[aE,if_true];obtain⟨_,b,o,sz,n,hb,hv⟩:=hv.oS;obtain⟨vs,cH,fX,hB,⟨_,cw⟩,ZH,b8,hl⟩:=wO.at hb;simp only[List.flatten_cons,List.flatten_nil,List.append_nil]at hl;have l7:aJ w (aT E w F) cl cH vs cells:=R.mP hl (by simpa[e5]using hi);have zl:cH=[]:=R.J1 hl (by simpa[e5]using hi);subst zl;have wz:b∈F id:=by{rw[fX];exact List.mem_cons_self .. };have qX:aT E w F' b:=⟨(h.lt id b wz).2.elim (fun h=> .inr (.inl h)) (fun h=> .inr (.inr h)),(h.lt id b wz).1,fun i hm=>by by_cases e:i=id;·{simp[F',e]at hm};·exact e (h.ej i id b (hsub i b hm) wz)⟩;rw[hv,Nat.zero_mul,Nat.add_zero];exact .au qX b8 (iz l7)};·simp only[aE,if_neg e];exact iz (h.slot t)};·{by_cases e:i=id;·{subst e;simp[aE]at hr};·simp only[aE,if_neg e]at hr;have:=(h.obj i r hr).mono (w':=w) (I':=aT E w F') (β':=β) hI (fun _ _=>rfl) (fun _ _ h=>h);simpa[F',e]using this};·{by_cases e:i=id;·{simp[F',e]};·simp only[F',if_neg e];refine h.dead i fun r hr=>hi' r ?_;simp[aE,e,hr]};·{by_cases e:i=id;·{simp[F',e]};·simpa[F',e]using h.nd i};·by_cases e:i=id;·{subst e;simp[aE]at hi'};·simp only[aE,if_neg e]at hi';exact h.dom i hi'};·cases hf};·cases hf};·cases hf
theorem Yf {S S' : an} {s : Nat} (h : qR S s = some S') : S'.n = S.n := by
  unfold qR at h
  repeat' (first
    | (simp only [reduceCtorEq] at h; done)
    | (simp only [Option.some.injEq] at h; subst h; rfl)
    | split at h)
theorem NP:∀{l:List Nat}{S S':an},lV l S=some S'→S'.n=S.n|[],S,S',h=>by{simp only[lV,Option.some.injEq]at h;rw[h]}|s::l,S,S',h=>by obtain⟨ck,h1,h2⟩:=Option.bind_eq_some_iff.1 h;rw[NP h2,Yf h1]
theorem bP.lV:∀{l:List Nat}{S S':an},bP C E S a w→Ab.lV l S=some S'→bP C E S' a w|[],S,S',h,e=>by{simp only[Ab.lV,Option.some.injEq]at e;rw[←e];exact h}|s::l,S,S',h,e=>by obtain⟨ck,h1,h2⟩:=Option.bind_eq_some_iff.1 e;obtain⟨β,F,hS⟩:=h;obtain⟨F',kn⟩:=hS.qR h1;exact bP.lV ⟨β,F',kn⟩ h2
theorem WR{f:FuncId}{id:Nat}{S S':an}(h:qM C f id S=some S'):S'.n=S.n:=by obtain⟨ck,h1,h2⟩:=Option.bind_eq_some_iff.1 h;rw[yV h2,NP h1]
theorem bP.qM{f:FuncId}{id:Nat}(ho:∀b l,C.nB f id=some (b,l)→l.Nodup){S S':an}(h:bP C E S a w)(hc:Ab.qM C f id S=some S'):bP C E S' a w:=by obtain⟨ck,h1,h2⟩:=Option.bind_eq_some_iff.1 hc;exact(bP.lV h h1).cut ho h2
structure vv (C : aV) : Prop where
  r : ∀ f i b l, C.nB f i = some (b, l) → l.Nodup
  b : ∀ f i b l, C.oB f i = some (b, l) → l.Nodup
  s : ∀ f i b l, C.H7 f i = some (b, l) → l.Nodup
theorem vv.seq(h:vv C){c:Code}:∀b l,rO C f c=some (b,l)→l.Nodup:=by unfold rO;split;·{exact h.s f _};·intro b l e;cases e
end
end Go.Ab
