import Derived.Test.YtkmdadjmdgonbaaGreatDoorAbDraw
import Derived.Deep.LoopGhost
import Derived.RangeFuncCalls
import Derived.OrdersIn
open Bool renaming true->bv,false->ci
open Option renaming some->ac,none->am
open List renaming nil_append->A0,append_nil->Do
open Option.some renaming injEq->AC
set_option linter.all false
namespace Go.Ab
open Go
section
variable{C:aH}{E:Env}{w:World}{S:ai}{a:Act}{β:Id->Option Loc}{F:Id->List Nat}
variable{f:FuncId}{call:FuncId->List U->Option (U×List U)}
theorem Nj(h:aW C E w S a β F):∀{slots:List Nat}{x},kE S.h S.t slots=ac x->
  ∃fp rest,aB w (aU E w F) cr fp (slots.map (a.tmps.getD · undef)) x.1∧(fp++rest).Perm (x.2.flatMap F)
 |[],x,hx=>by
  simp[kE]at hx;subst hx
  exact⟨[],[], .nil,by simp⟩
 |s::l,x,hx=>by
  simp only[kE,Option.bind_eq_some_iff,Option.map_eq_some_iff]at hx
  obtain⟨y,hy,z,hz,rfl⟩:=hx
  obtain⟨oC,r1,g1,g2⟩:=BW h.obj 9 _ _ hy _ _ (h.slot s)
  obtain⟨kq,r2,g3,g4⟩:=Nj h hz
  refine⟨oC++kq,r1++r2, .cons g1 g3, ?_⟩
  have :=vk (f1:=[]) (f2:=[]) g2 (by simpa using g4)
  simpa[List.flatMap_append]using this
theorem aW.j4(h:aW C E w S a β F){slots:List Nat}{cw:List U}(hs:iF slots)(hr:j4 S slots=ac cw):bW C E (bp S.n slots cw) a w:=by unfold Ab.j4 at hr;split at hr;·{rename_i VA ids hp;split at hr;·{rename_i hnd;simp only[AC]at hr;subst hr;obtain⟨fp,rest,g1,g2⟩:=Nj h hp;have hmem:∀b∈fp,∃id,b∈F id:=λb hb=>by{obtain⟨id,_,hid⟩:=List.mem_flatMap.1 (BV g2 hb);exact⟨id,hid⟩};refine aW.enter (I:=aU E w F) h.n h.df g1 hs.nd (It g2 (DC h (EG hnd))) (λb hb=>⟨hb.1,hb.2.1,λhm=> ?_⟩) (λb hb=> ?_) h.kept (λg cs hg=>(h.ez g cs hg).rJ (KL cs) λ_ h=>h) h.ns hs.EH;·{obtain⟨id,hid⟩:=hmem b hm;exact hb.2.2 id hid};·obtain⟨id,hid⟩:=hmem b hb;exact h.lt id b hid};·cases hr};·cases hr
theorem Dn{o:Option (Bool×List Nat)}{S S':ai}(h:fD o S=ac S'):S'.n=S.n:=by unfold fD at h;split at h;·{simp only[AC]at h;rw[h]};·{exact MT h};·obtain⟨t,_,rfl⟩:=Option.map_eq_some_iff.1 h;exact BF ..
theorem bW.cut{o:Option (Bool×List Nat)}(ho:∀b l,o=ac (b,l)->iF l){S S':ai}(h:bW C E S a w)(hc:fD o S=ac S'):bW C E S' a w:=by unfold fD at hc;split at hc;·{simp only[AC]at hc;rw[<-hc];exact h};·{obtain⟨β,F,hS⟩:=h;exact hS.norm (ho _ _ rfl) hc};·obtain⟨t,h1,rfl⟩:=Option.map_eq_some_iff.1 hc;obtain⟨β,F,hS⟩:=h;exact hS.j4 (ho _ _ rfl) h1
theorem aW.o8(h:aW C E w S a β F){s:Nat}{S':ai}(hf:Ab.o8 S s=ac S'):∃F',aW C E w S' a β F':=by unfold Ab.o8 at hf;split at hf;(case h_2=>cases hf);rename_i v ids hpk;split at hf;(case isFalse=>cases hf);rename_i hnd;simp only[AC]at hf;subst hf;obtain⟨fp,rest,g1,g2⟩:=BW h.obj 9 _ _ hpk _ _ (h.slot s);simp only[A0]at g2;have hmem:∀b∈fp,∃id∈ids,b∈F id:=λb hb=>by{obtain⟨id,h1,hid⟩:=List.mem_flatMap.1 (BV g2 hb);exact⟨id,h1,hid⟩};let F':Id->List Nat:=λi=>if i∈ids then[]else F i;have hsub:∀i b,b∈F' i->b∈F i:=λi b hb=>by{by_cases e:i∈ids;·{simp[F',e]at hb};·simpa[F',e]using hb};have hI:∀b,aU E w F b->aU E w F' b:=λb hb=>⟨hb.1,hb.2.1,λi hm=>hb.2.2 i (hsub i b hm)⟩;have aek:∀b∈fp,aU E w F' b:=λb hb=>by{obtain⟨id,hid,rD⟩:=hmem b hb;refine⟨(h.lt id b rD).2.elim (λh=> .inr (.inl h)) (λh=> .inr (.inr h)),(h.lt id b rD).1,λi hm=> ?_⟩;by_cases e:i∈ids;·{simp[F',e]at hm};·have:=h.eJ i id b (hsub i b hm) rD;subst this;exact e hid};have jj:∀{β':Id->Option Loc}{f:List Nat}{v:Value}{x:U},R w (aU E w F) β' f v x->R w (aU E w F') β' f v x:=λhr=>hr.mono hI (λ_ _=>rfl) (λ_ _ h=>h);have sR:∀i rows,bD S.h (ids.map λi=>(i,am)) i=ac (ac rows)->i∉ids∧S.h i=ac (ac rows):=λi rows hr=>by{rcases jo S.h (ids.map λi=>(i,am)) i with⟨x,hx,e1,e2⟩|⟨h1,h2⟩;·{obtain⟨j,hj,rfl⟩:=List.mem_map.1 hx;rw[e2]at hr;cases hr};·refine⟨λhm=>h1 (i,am) (List.mem_map.2 ⟨i,hm,rfl⟩) rfl, ?_⟩;rw[h2]at hr;exact hr};have hnone:∀i,bD S.h (ids.map λi=>(i,am)) i=am->S.h i=none:=λi hr=>by{rcases jo S.h (ids.map λi=>(i,am)) i with⟨x,hx,e1,e2⟩|⟨h1,h2⟩;·{rw[e2]at hr;cases hr};·rw[h2]at hr;exact hr};have hal:∀i rows,i∉ids->S.h i=ac (ac rows)->bD S.h (ids.map λi=>(i,am)) i=ac (ac rows):=λi rows hni hr=>by{rcases jo S.h (ids.map λi=>(i,am)) i with⟨x,hx,e1,e2⟩|⟨h1,h2⟩;·{obtain⟨j,hj,rfl⟩:=List.mem_map.1 hx;exact absurd (show i∈ids from e1▸hj) hni};·rw[h2];exact hr};refine⟨F', ?_⟩;refine{n:=h.n,df:=h.df.mono (λb hb=>⟨hI b hb.1,hb.2⟩) (λ_ _=>rfl),slot:=λt=> ?_,obj:=λi r hr=> ?_,dead:=λi hi'=> ?_,nd:=λi=> ?_,eJ:=λi j b hb hb'=>h.eJ i j b (hsub i b hb) (hsub j b hb'),dom:=λi hi'=>h.dom i (hnone i hi'),lt:=λi b hb=>h.lt i b (hsub i b hb),kept:=h.kept,ez:=λg cs hg=>jj (h.ez g cs hg),ns:=h.ns,kb:=λk r hk hr=>h.kb k r hk (sR k r hr).2};·{by_cases e:t=s;·{subst e;simp only[av,if_true];exact((g1.ff (λb hb=>hI b hb) aek).mono (λ_ h=>h) (λ_ _=>rfl) H7)};·simp only[av,if_neg e];exact jj (h.slot t)};·{obtain⟨e,hr'⟩:=sR i r hr;have:=(h.obj i r hr').mono (w':=w) (I':=aU E w F') (β':=β) hI (λ_ _=>rfl) (λ_ _ h=>h);simpa[F',e]using this};·{by_cases e:i∈ids;·{simp[F',e]};·simp only[F',if_neg e];exact h.dead i λr hr=>hi' r (hal i r e hr)};·by_cases e:i∈ids;·{simp[F',e]};·simpa[F',e]using h.nd i
theorem aW.oE(h:aW C E w S a β F){s:Nat}{S':ai}(hf:Ab.oE S s=ac S'):∃F',aW C E w S' a β F':=by unfold Ab.oE at hf;split at hf;·{rename_i id hs;split at hf;·{rename_i cells hid;split at hf;·{rename_i hi;simp only[AC]at hf;subst hf;have yQ:=h.obj id [cells] hid;let F':Id->List Nat:=λi=>if i=id then[]else F i;have hsub:∀i b,b∈F' i->b∈F i:=λi b hb=>by{by_cases e:i=id;·{simp[F',e]at hb};·simpa[F',e]using hb};have hI:∀b,aU E w F b->aU E w F' b:=λb hb=>⟨hb.1,hb.2.1,λi hm=>hb.2.2 i (hsub i b hm)⟩;have jj:∀{β':Id->Option Loc}{f:List Nat}{v:Value}{x:U},R w (aU E w F) β' f v x->R w (aU E w F') β' f v x:=λhr=>hr.mono hI (λ_ _=>rfl) (λ_ _ h=>h);refine⟨F', ?_⟩;refine{n:=h.n,df:=h.df.mono (λb hb=>⟨hI b hb.1,hb.2⟩) (λ_ _=>rfl),slot:=λt=> ?_,obj:=λi r hr=> ?_,dead:=λi hi'=> ?_,nd:=λi=> ?_,eJ:=λi j b hb hb'=>h.eJ i j b (hsub i b hb) (hsub j b hb'),dom:=λi hi'=> ?_,lt:=λi b hb=>h.lt i b (hsub i b hb),kept:=h.kept,ez:=λg cs hg=>jj (h.ez g cs hg),ns:=h.ns,kb:=λk r hk hr=>h.kb k r hk (by by_cases e:k=id;·{subst e;simp[av]at hr};·simpa[av,e]using hr)};·{by_cases e:t=s;·{subst e;have hv:=h.slot t;rw[hs]at hv;simp only[av,if_true];obtain⟨_,b,o,sz,n,hb,hv⟩:=hv.qp;obtain⟨vs,dn,iz,hB,⟨_,hrows⟩,aeM,cp,hl⟩:=yQ.at hb;simp only[List.flatten_cons,List.flatten_nil,Do]at hl;have hl0:aB w (aU E w F) cr dn vs cells:=R.s4 hl (by simpa[gw]using hi);have Lw:dn=[]:=R.Mi hl (by simpa[gw]using hi);subst Lw;have rD:b∈F id:=by{rw[iz];exact List.mem_cons_self .. };have DO:aU E w F' b:=⟨(h.lt id b rD).2.elim (λh=> .inr (.inl h)) (λh=> .inr (.inr h)),(h.lt id b rD).1,λi hm=>by by_cases e:i=id;·{simp[F',e]at hm};·exact e (h.eJ i id b (hsub i b hm) rD)⟩;rw[hv,Nat.zero_mul,Nat.add_zero];exact .bL DO cp (jj hl0)};·simp only[av,if_neg e];exact jj (h.slot t)};·{by_cases e:i=id;·{subst e;simp[av]at hr};·simp only[av,if_neg e]at hr;have:=(h.obj i r hr).mono (w':=w) (I':=aU E w F') (β':=β) hI (λ_ _=>rfl) (λ_ _ h=>h);simpa[F',e]using this};·{by_cases e:i=id;·{simp[F',e]};·simp only[F',if_neg e];refine h.dead i λr hr=>hi' r ?_;simp[av,e,hr]};·{by_cases e:i=id;·{simp[F',e]};·simpa[F',e]using h.nd i};·by_cases e:i=id;·{subst e;simp[av]at hi'};·simp only[av,if_neg e]at hi';exact h.dom i hi'};·cases hf};·cases hf};·{exact h.o8 hf};·{exact h.o8 hf};·{exact h.o8 hf};·{simp only[AC]at hf;subst hf;exact⟨F,h⟩};·cases hf
theorem adx{S S':ai}{s:Nat}(h:oE S s=ac S'):S'.n=S.n:=by
 unfold oE o8 at h
 repeat'(first
  |(simp only[reduceCtorEq]at h;done)
  |(simp only[AC]at h;subst h;rfl)
  |split at h)
theorem G9:∀{l:List Nat}{S S':ai},kr l S=ac S'->S'.n=S.n|[],S,S',h=>by{simp only[kr,AC]at h;rw[h]}|s::l,S,S',h=>by obtain⟨bJ,h1,h2⟩:=Option.bind_eq_some_iff.1 h;rw[G9 h2,adx h1]
theorem bW.kr:∀{l:List Nat}{S S':ai},bW C E S a w->Ab.kr l S=ac S'->bW C E S' a w|[],S,S',h,e=>by{simp only[Ab.kr,AC]at e;rw[<-e];exact h}|s::l,S,S',h,e=>by obtain⟨bJ,h1,h2⟩:=Option.bind_eq_some_iff.1 e;obtain⟨β,F,hS⟩:=h;obtain⟨F',DR⟩:=hS.oE h1;exact bW.kr ⟨β,F',DR⟩ h2
theorem aiN(h:bW C E S a w){p s:Nat}{S':ai}(hf:qu p S s=ac S'):bW C E S' a w:=by obtain⟨β,F,h⟩:=h;unfold qu at hf;split at hf;·{rename_i id aqK apG hs;split at hf;·{rename_i r hid;split at hf;·{simp only[AC]at hf;subst hf;exact⟨β,F,h⟩};·split at hf;·{rename_i hc;simp only[AC]at hf;subst hf;have hv:=h.slot s;rw[hs]at hv;obtain⟨_,b,o,sz,n,hb,_⟩:=hv.qp;have e1:(r.drop 0).take r.length=r:=by{simp};obtain⟨β',F',vs,hS,_⟩:=h.N9 (p:=[p,s]) (row:=0) (off:=0) (n:=r.length) hid hb rfl (by omega) (by rw[e1];exact hc.2) (λq hq=>h.ns s hc.1 (q++[p]) (by simpa using hq));rw[e1]at hS;simp only[List.set_cons_zero,List.take_zero,A0,Nat.zero_add,List.drop_length,Do]at hS;exact⟨β',F',hS⟩};·cases hf};·cases hf};·cases hf
theorem aiM{S S':ai}{p s:Nat}(h:qu p S s=ac S'):S'.n=S.n:=by
 unfold qu at h
 repeat'(first
  |(simp only[reduceCtorEq]at h;done)
  |(simp only[AC]at h;subst h;rfl)
  |split at h)
theorem T8:∀{l:List Nat}{p:Nat}{S S':ai},nD p l S=ac S'->S'.n=S.n|[],_,S,S',h=>by{simp only[nD,AC]at h;rw[h]}|s::l,p,S,S',h=>by obtain⟨bJ,h1,h2⟩:=Option.bind_eq_some_iff.1 h;rw[T8 h2,aiM h1]
theorem bW.nD:∀{l:List Nat}{p:Nat}{S S':ai},bW C E S a w->Ab.nD p l S=ac S'->bW C E S' a w|[],_,S,S',h,e=>by{simp only[Ab.nD,AC]at e;rw[<-e];exact h}|s::l,p,S,S',h,e=>by obtain⟨bJ,h1,h2⟩:=Option.bind_eq_some_iff.1 e;exact bW.nD (aiN h h1) h2
theorem QI{f:FuncId}{id:Nat}{S S':ai}(h:l6 C f id S=ac S'):S'.n=S.n:=by obtain⟨ia,h0,h⟩:=Option.bind_eq_some_iff.1 h;obtain⟨bJ,h1,h2⟩:=Option.bind_eq_some_iff.1 h;rw[Dn h2,G9 h1,T8 h0]
theorem bW.l6{f:FuncId}{id:Nat}(ho:∀b l,C.jF f id=ac (b,l)->iF l){S S':ai}(h:bW C E S a w)(hc:Ab.l6 C f id S=ac S'):bW C E S' a w:=by obtain⟨ia,h0,hc⟩:=Option.bind_eq_some_iff.1 hc;obtain⟨bJ,h1,h2⟩:=Option.bind_eq_some_iff.1 hc;exact(bW.kr (bW.nD h h0) h1).cut ho h2
structure tU(C:aH):Prop where
 r:∀f i b l,C.jF f i=ac (b,l)->iF l
 b:∀f i b l,C.p9 f i=ac (b,l)->iF l
 s:∀f i b l,C.GQ f i=ac (b,l)->iF l
theorem tU.seq(h:tU C){c:Code}:∀b l,jQ C f c=ac (b,l)->iF l:=by unfold jQ;split;·{exact h.s f _};·intro b l e;cases e
end
open Go
def kI:Option Nat->Fence|none=>Fence.wide|some l=>Fence.wide.inRound l
theorem Oq(ro:Option Nat)(f:FuncId):(kI ro).fn f:=by cases ro<;>trivial
theorem Oo(ro:Option Nat):(kI ro).depth.isSome=bv->1<=0:=by cases ro<;>(intro h;cases h)
theorem aaP{ro:Option Nat}{n:Nat}{P:Program}{f:FuncId}{args:Array Value}{w:World}{R:Ending->World->Prop}(h:Calls P f args w R):CallsIn (kI ro) n P f args w R:=by have:=callsIn_wide (n:=n)|>.2 h;cases ro with|none=>(exact this)|some l=>exact this.inRound l
theorem akk{ro:Option Nat}{n:Nat}{P:Program}{row:String}{args:Array Value}{w:World}{R:Value->World->Prop}(h:_root_.Go.Rows P row args w R):RowsIn (kI ro) n P row args w R:=by intro c cs _;obtain⟨v,w',h1,h2⟩:=h c cs;refine⟨v,w',h1, ?_⟩;cases ro with|none=>(exact stepsIn_wide.2 h2)|some l=>exact stepsIn_wide.2 h2
def wQ(ops:Array Oper):Bool:=ops.all λo=>match o.op with| .defer _=>ci|_=>bv
section
variable{P:Program}{ops:Array Oper}{Q:Exit->Act->World->Prop}{ro:Option Nat}
theorem aiO{o:Oper}{a:Act}{w:World}{K K':Act->World->Prop}(hd:∀c,o.op≠ .defer c)(hK:∀a w,K a w->K' a w)(h:o.wp P a w K Q):o.wpIn (kI ro) 0 P a w K' Q:=by refine⟨λf _=>Oq ro f, ?_⟩;rw[Oper.semAt_eq _ _ _ hd];unfold Oper.wp at h;generalize(execOp a.eval o).run P w=r at*;cases r with|ok x w'=>(cases x with|value v=>(exact hK _ _ h)|skip=>(exact hK _ _ h)|defer d=>(exact hK _ _ h)|enter f args=>(exact⟨Oo ro,aaP (h.mono λe w'' he=>by cases e<;>first|exact hK _ _ he|exact he)⟩)|row row args=>(exact⟨Oo ro,akk (h.mono λv w'' he=>hK _ _ he)⟩)|round l f tmps assign body=>(exact h.elim)|_=>exact h)|halt x w'=>cases x<;>exact h
theorem ahx(h:wQ ops=bv){i:Nat}{o:Oper}(ho:ops[i]? =ac o)(c:Call):o.op≠ .defer c:=by intro e;unfold wQ at h;rw[Array.all_eq_true_iff_forall_mem]at h;have:=h o (Array.mem_of_getElem? ho);rw[e]at this;cases this
theorem VX(hd:wQ ops=bv)(pg:¬LetsOut Q){i:Nat}{a:Act}{w:World}{K K':Act->World->Prop}(hK:∀a w,K a w->K' a w)(h:wpOp P ops Q i K a w):wpOpIn (kI ro) 0 P ops Q i K' a w:=by unfold wpOp at h;unfold wpOpIn;cases ho:ops[i]? with|none=>(rw[ho]at h;exact hK _ _ h)|some o=>rw[ho]at h;simp only at h|-;split at h;·{rename_i hw;rw[if_pos hw];rcases h with h|h;·{exact aiO (ahx hd ho) hK h};·exact absurd h.2 pg};·rename_i hw;rw[if_neg hw];exact⟨λf _=>Oq ro f,hK _ _ h⟩
theorem Of(hd:wQ ops=bv)(pg:¬LetsOut Q):∀(l:List Nat)(a:Act)(w:World),wpOps P ops Q l a w->wpOpsIn (kI ro) 0 P ops Q l a w|[],_,_,h=>h|i::l,a,w,h=>by rw[wpOpsIn_cons];rw[wpOps_cons]at h;exact VX hd pg (λa w=>Of hd pg l a w) h
theorem Oe{md:Region.Mode}(hd:wQ ops=bv)(pg:¬LetsOut Q):∀(n:Nat)(listed:Array Bool)(a:Act)(w:World),wpAny P md ops Q n listed a w->wpAnyIn (kI ro) 0 P md ops Q n listed a w|0,_,_,_,h=>h|n+1,listed,a,w,h=>⟨h.1,λi hi=>VX hd pg (λa w=>Oe hd pg n _ a w) (h.2 i hi)⟩
end
/-! ### The record, the block of deferred calls -/
def wV:Obj->Bool| .cells .. =>ci| .map .. =>ci|_=>bv
section
variable{C:aH}{E:Env}{w:World}{S:ai}{a:Act}{β:Id->Option Loc}{F:Id->List Nat}
theorem fZ.wU{b k:Nat}{vs:List Value}{o:Obj}(h:fZ w b k vs)(ho:w.heap[b]? =ac o)(hd:wV o=bv):vs=[]:=by cases vs with|nil=>(rfl)|cons v vs=>have:=h 0 v rfl;unfold World.cell? at this;simp only[ho]at this;cases o<;>simp_all[wV]
theorem qQ.wU{b:Nat}{o:Obj}{r:Ab.Rows}(h:qQ w b r)(ho:w.heap[b]? =ac o):wV o=false:=by obtain⟨es,c,h1,_⟩:=h;rw[h1]at ho;cases ho;rfl
theorem R.wU{I:Nat->Prop}{f:List Nat}{v:Value}{x:U}{w':World}(h:R w I β f v x)(hw:∀(b:Nat)(o:Obj),w.heap[b]? =ac o->wV o=ci->w'.heap[b]? =ac o):R w' I β f v x:=by have hC:∀{b k:Nat}{vs:List Value},fZ w b k vs->fZ w' b k vs:=λ{b k vs}hc=>by{cases ho:w.heap[b]? with|none=>(have:vs=[]:=by{cases vs with|nil=>(rfl)|cons v vs=>have:=hc 0 v rfl;unfold World.cell? at this;simp[ho]at this};subst this;intro k v hk;simp at hk)|some o=>cases hd:wV o with|true=>(rw[hc.wU ho hd];intro k v hk;simp at hk)|false=>exact hc.mono (by rw[hw b o ho hd,ho])};have hB:∀{b n:Nat},jS w b n->jS w' b n:=λ{b n}hb=>by{obtain⟨c,e,h1,h2⟩:=hb;exact⟨c,e,hw b _ h1 rfl,h2⟩};have hM:∀{b:Nat}{rows:Ab.Rows},qQ w b rows->qQ w' b rows:=λ{b rows}hb=>by{obtain⟨es,c,h1,h2⟩:=hb;exact⟨es,c,hw b _ h1 rfl,h2⟩};induction h with|val h=>(exact .val h)|cg=>(exact .cg)|hJ=>(exact .hJ)|sl h1 h2 h3 h4 _ ih=>(exact .sl h1 h2 (hC h3) h4 ih)|bL h1 h2 _ ih=>(exact .bL h1 (hC h2) ih)|jA h hl=>(exact .jA h hl)|rs h1 h2 h3=>(exact .rs h1 h2 h3)|mp h=>(exact .mp h)|fn _ _ ih1 ih2=>(exact .fn ih1 ih2)|nil=>(exact .nil)|cons _ _ ih1 ih2=>(exact .cons ih1 ih2)|aC _ ih=>(exact .aC ih)|lK=>(exact .lK)|own h0 h1 h2 h3 h4 h5 _ ih=>(exact .own h0 h1 (hB h2) h3 h4 (hC h5) ih)|mO h0 h1 h2 h3 h5 _ ih=>(exact .mO h0 h1 (hB h2) h3 (hC h5) ih)|c8 h1 h2 h3 _ ih=>(exact .c8 (hB h1) h2 (hC h3) ih)|rf _ ih=>(exact .rf ih)|q9=>(exact .q9)|nn=>(exact .nn)|mr h=>(exact .mr h)|fo h=>(exact .fo (hM h))|im h1 h2=>(exact .im h1 (hM h2))|iD h1 h2=>(exact .iD h1 (by obtain⟨c,e,h3,h4⟩:=h2;exact⟨c,e,hw _ _ h3 rfl,h4⟩))|aS=>exact .aS
theorem eF.wU{I:Nat->Prop}{id:Id}{rows:Ab.Rows}{fp:List Nat}{w':World}(h:eF w I β id rows fp)(hw:∀(b:Nat)(o:Obj),w.heap[b]? =ac o->wV o=ci->w'.heap[b]? =ac o):eF w' I β id rows fp:=by rcases h with h|⟨b,h1,h2,es,c,h3,h4⟩|⟨b,o,sz,n,vs,dn,h1,h2,⟨c,e,h3,wj⟩,h4,h5,h6,h7⟩;·{exact .inl h};·{exact .inr (.inl ⟨b,h1,h2,es,c,hw b _ h3 rfl,h4⟩)};·exact .inr (.inr ⟨b,o,sz,n,vs,dn,h1,h2,⟨c,e,hw b _ h3 rfl,wj⟩,h4,h5,h6.mono (by rw[hw b _ h3 rfl,h3]),h7.wU hw⟩)
theorem aW.Nu(h:aW C E w S a β F){l:Nat}{o o':Obj}(hl:w.heap[l]? =ac o)(ho:wV o=bv)(hE:E.w0.heap.size<=l){a':Act}(ht:a'.tmps=a.tmps)(hdf:nP (w.putObj l o') (λb=>aU E w F b∧E.m<=b) E.ds a'.defers):aW C E (w.putObj l o') S a' β F:=by have hlt:=lt_of_heap hl;have hw:∀(b:Nat)(x:Obj),w.heap[b]? =ac x->wV x=ci->(w.putObj l o').heap[b]? =ac x:=λb x hb hx=>by{have:b≠l:=λe=>by{subst e;rw[hl]at hb;cases hb;rw[ho]at hx;cases hx};rw[World.putObj_heap_other this,hb]};have sO:∀b,aU E (w.putObj l o') F b↔aU E w F b:=λb=>by{unfold aU;rw[World.putObj_size]};have hI:aU E (w.putObj l o') F=aU E w F:=funext λb=>propext (sO b);refine{n:=by rw[ht];exact h.n,df:=by rw[hI];exact hdf,slot:=λt=>by rw[hI,ht];exact(h.slot t).wU hw,obj:=λid rows hr=>by rw[hI];exact(h.obj id rows hr).wU hw,dead:=h.dead,nd:=h.nd,eJ:=h.eJ,dom:=h.dom,lt:=λid b hb=>by rw[World.putObj_size];exact h.lt id b hb,kept:= ?_,ez:=λg cs hg=>by rw[hI];exact(h.ez g cs hg).wU hw,ns:=h.ns,kb:=h.kb};refine⟨by rw[World.putObj_size];exact h.kept.size,λb hb hf=> ?_,h.kept.os,h.kept.out,λx hx=> ?_,λb n hB=> ?_⟩;·{rw[World.putObj_heap_other (by omega)];exact h.kept.blk b hb hf};·{rw[<-h.kept.gu x hx];exact World.frozen?_of_block (World.putObj_heap_other (by omega))};·obtain⟨c,e,h1,h2⟩:=h.kept.tK b n hB;exact⟨c,e,hw b _ h1 rfl,h2⟩
def Env.at(E:Env)(w:World)(F:Id->List Nat):Env:=⟨w,λb=>∃id,b∈F id,aU E w F,min E.m w.heap.size,Nat.min_le_right _ _,E.K,E.s7,E.wL,E.ds⟩
end
end Go.Ab
