import Derived.Test.YtbbhbdlljfffdaaGreatDoorAbDraw
import Derived.Deep.LoopGhost
import Derived.RangeFuncCalls
import Derived.OrdersIn
open Nat renaming le_trans->Do,lt_of_lt_of_le->GE
open Option.some renaming injEq->AC
set_option linter.all false
namespace Go.Ab
open Go
section
variable{C:ax}{E:Env}{w:World}{S:ah}{a:Act}{β:Id->Option Loc}{F:Id->List Nat}
variable{f:FuncId}{call:FuncId->List U->Option (U×List U)}
theorem KJ(h:ay C E w S a β F):∀{slots:List Nat}{x},jC S.h S.t slots=some x->
  ∃fp rest,an w (av E w F) br fp (slots.map (a.tmps.getD · undef)) x.1∧(fp++rest).Perm (x.2.flatMap F)
 |[],x,hx=>by
  simp[jC]at hx;subst hx
  exact⟨[],[], .nil,by simp⟩
 |s::l,x,hx=>by
  simp only[jC,Option.bind_eq_some_iff,Option.map_eq_some_iff]at hx
  obtain⟨y,hy,z,hz,rfl⟩:=hx
  obtain⟨k7,r1,g1,g2⟩:=vm h.obj 9 _ _ hy _ _ (h.slot s)
  obtain⟨jq,r2,g3,g4⟩:=KJ h hz
  refine⟨k7++jq,r1++r2, .cons g1 g3, ?_⟩
  have :=rT (f1:=[]) (f2:=[]) g2 (by simpa using g4)
  simpa[List.flatMap_append]using this
theorem ay.jd(h:ay C E w S a β F){slots:List Nat}{bK:List U}(hs:fo slots)(hr:jd S slots=some bK):aL C E (aA S.n slots bK) a w:=by unfold Ab.jd at hr;split at hr;·{rename_i Sv ids hp;split at hr;·{rename_i hnd;simp only[AC]at hr;subst hr;obtain⟨fp,rest,g1,g2⟩:=KJ h hp;have hmem:∀b∈fp,∃id,b∈F id:=fun b hb=>by{obtain⟨id,_,hid⟩:=List.mem_flatMap.1 (xK g2 hb);exact⟨id,hid⟩};refine ay.enter (I:=av E w F) h.n h.df g1 hs.nd (Dc g2 (zh h (xA hnd))) (fun b hb=>⟨hb.1,hb.2.1,fun hm=> ?_⟩) (fun b hb=> ?_) h.kept (fun g cs hg=>(h.bS g cs hg).pn rfl fun _ h=>h) h.ns hs.CW;·{obtain⟨id,hid⟩:=hmem b hm;exact hb.2.2 id hid};·obtain⟨id,hid⟩:=hmem b hb;exact h.lt id b hid};·cases hr};·cases hr
theorem y7{o:Option (Bool×List Nat)}{S S':ah}(h:dX o S=some S'):S'.n=S.n:=by unfold dX at h;split at h;·{simp only[AC]at h;rw[h]};·{exact Kr h};·obtain⟨t,_,rfl⟩:=Option.map_eq_some_iff.1 h;exact Ag ..
theorem aL.cut{o:Option (Bool×List Nat)}(ho:∀b l,o=some (b,l)->fo l){S S':ah}(h:aL C E S a w)(hc:dX o S=some S'):aL C E S' a w:=by unfold dX at hc;split at hc;·{simp only[AC]at hc;rw[<-hc];exact h};·{obtain⟨β,F,hS⟩:=h;exact hS.norm (ho _ _ rfl) hc};·obtain⟨t,h1,rfl⟩:=Option.map_eq_some_iff.1 hc;obtain⟨β,F,hS⟩:=h;exact hS.jd (ho _ _ rfl) h1
theorem ay.rf(h:ay C E w S a β F){s:Nat}{S':ah}(hf:Ab.rf S s=some S'):∃F',ay C E w S' a β F':=by unfold Ab.rf at hf;split at hf;(case h_2=>cases hf);rename_i v ids hpk;split at hf;(case isFalse=>cases hf);rename_i hnd;simp only[AC]at hf;subst hf;obtain⟨fp,rest,g1,g2⟩:=vm h.obj 9 _ _ hpk _ _ (h.slot s);simp only[List.nil_append]at g2;have hmem:∀b∈fp,∃id∈ids,b∈F id:=fun b hb=>by{obtain⟨id,h1,hid⟩:=List.mem_flatMap.1 (xK g2 hb);exact⟨id,h1,hid⟩};let F':Id->List Nat:=fun i=>if i∈ids then[]else F i;have hsub:∀i b,b∈F' i->b∈F i:=fun i b hb=>by{by_cases e:i∈ids;·{simp[F',e]at hb};·simpa[F',e]using hb};have hI:∀b,av E w F b->av E w F' b:=fun b hb=>⟨hb.1,hb.2.1,fun i hm=>hb.2.2 i (hsub i b hm)⟩;have Z1:∀b∈fp,av E w F' b:=fun b hb=>by{obtain⟨id,hid,qj⟩:=hmem b hb;refine⟨(h.lt id b qj).2.elim (fun h=> .inr (.inl h)) (fun h=> .inr (.inr h)),(h.lt id b qj).1,fun i hm=> ?_⟩;by_cases e:i∈ids;·{simp[F',e]at hm};·have:=h.cR i id b (hsub i b hm) qj;subst this;exact e hid};have gu:∀{β':Id->Option Loc}{f:List Nat}{v:Value}{x:U},R w (av E w F) β' f v x->R w (av E w F') β' f v x:=fun hr=>hr.mono hI (fun _ _=>rfl) (fun _ _ h=>h);have ry:∀i rows,aN S.h (ids.map fun i=>(i,none)) i=some (some rows)->i∉ids∧S.h i=some (some rows):=fun i rows hr=>by{rcases fF S.h (ids.map fun i=>(i,none)) i with⟨x,hx,e1,e2⟩|⟨h1,h2⟩;·{obtain⟨j,hj,rfl⟩:=List.mem_map.1 hx;rw[e2]at hr;cases hr};·refine⟨fun hm=>h1 (i,none) (List.mem_map.2 ⟨i,hm,rfl⟩) rfl, ?_⟩;rw[h2]at hr;exact hr};have hnone:∀i,aN S.h (ids.map fun i=>(i,none)) i=none->S.h i=none:=fun i hr=>by{rcases fF S.h (ids.map fun i=>(i,none)) i with⟨x,hx,e1,e2⟩|⟨h1,h2⟩;·{rw[e2]at hr;cases hr};·rw[h2]at hr;exact hr};have hal:∀i rows,i∉ids->S.h i=some (some rows)->aN S.h (ids.map fun i=>(i,none)) i=some (some rows):=fun i rows hni hr=>by{rcases fF S.h (ids.map fun i=>(i,none)) i with⟨x,hx,e1,e2⟩|⟨h1,h2⟩;·{obtain⟨j,hj,rfl⟩:=List.mem_map.1 hx;exact absurd (show i∈ids from e1▸hj) hni};·rw[h2];exact hr};refine⟨F', ?_⟩;refine{n:=h.n,df:=h.df.mono (fun b hb=>⟨hI b hb.1,hb.2⟩) (fun _ _=>rfl),slot:=fun t=> ?_,obj:=fun i r hr=> ?_,dead:=fun i hi'=> ?_,nd:=fun i=> ?_,cR:=fun i j b hb hb'=>h.cR i j b (hsub i b hb) (hsub j b hb'),dom:=fun i hi'=>h.dom i (hnone i hi'),lt:=fun i b hb=>h.lt i b (hsub i b hb),kept:=h.kept,bS:=fun g cs hg=>gu (h.bS g cs hg),ns:=h.ns,kb:=fun k r hk hr=>h.kb k r hk (ry k r hr).2};·{by_cases e:t=s;·{subst e;simp only[aj,if_true];exact((g1.dy (fun b hb=>hI b hb) Z1).mono (fun _ h=>h) (fun _ _=>rfl) xy)};·simp only[aj,if_neg e];exact gu (h.slot t)};·{obtain⟨e,hr'⟩:=ry i r hr;have:=(h.obj i r hr').mono (w':=w) (I':=av E w F') (β':=β) hI (fun _ _=>rfl) (fun _ _ h=>h);simpa[F',e]using this};·{by_cases e:i∈ids;·{simp[F',e]};·simp only[F',if_neg e];exact h.dead i fun r hr=>hi' r (hal i r e hr)};·by_cases e:i∈ids;·{simp[F',e]};·simpa[F',e]using h.nd i
theorem ay.wu(h:ay C E w S a β F){s:Nat}{S':ah}(hf:Ab.wu S s=some S'):∃F',ay C E w S' a β F':=by unfold Ab.wu at hf;split at hf;·{rename_i id hs;split at hf;·{rename_i cells hid;split at hf;·{rename_i hi;simp only[AC]at hf;subst hf;have wS:=h.obj id [cells] hid;let F':Id->List Nat:=fun i=>if i=id then[]else F i;have hsub:∀i b,b∈F' i->b∈F i:=fun i b hb=>by{by_cases e:i=id;·{simp[F',e]at hb};·simpa[F',e]using hb};have hI:∀b,av E w F b->av E w F' b:=fun b hb=>⟨hb.1,hb.2.1,fun i hm=>hb.2.2 i (hsub i b hm)⟩;have gu:∀{β':Id->Option Loc}{f:List Nat}{v:Value}{x:U},R w (av E w F) β' f v x->R w (av E w F') β' f v x:=fun hr=>hr.mono hI (fun _ _=>rfl) (fun _ _ h=>h);refine⟨F', ?_⟩;refine{n:=h.n,df:=h.df.mono (fun b hb=>⟨hI b hb.1,hb.2⟩) (fun _ _=>rfl),slot:=fun t=> ?_,obj:=fun i r hr=> ?_,dead:=fun i hi'=> ?_,nd:=fun i=> ?_,cR:=fun i j b hb hb'=>h.cR i j b (hsub i b hb) (hsub j b hb'),dom:=fun i hi'=> ?_,lt:=fun i b hb=>h.lt i b (hsub i b hb),kept:=h.kept,bS:=fun g cs hg=>gu (h.bS g cs hg),ns:=h.ns,kb:=fun k r hk hr=>h.kb k r hk (by by_cases e:k=id;·{subst e;simp[aj]at hr};·simpa[aj,e]using hr)};·{by_cases e:t=s;·{subst e;have hv:=h.slot t;rw[hs]at hv;simp only[aj,if_true];obtain⟨_,b,o,sz,n,hb,hv⟩:=hv.mR;obtain⟨vs,cx,eL,hB,⟨_,hrows⟩,aaN,bz,hl⟩:=wS.at hb;simp only[List.flatten_cons,List.flatten_nil,List.append_nil]at hl;have uR:an w (av E w F) br cx vs cells:=R.nF hl (by simpa[e9]using hi);have Ce:cx=[]:=R.JQ hl (by simpa[e9]using hi);subst Ce;have qj:b∈F id:=by{rw[eL];exact List.mem_cons_self .. };have rm:av E w F' b:=⟨(h.lt id b qj).2.elim (fun h=> .inr (.inl h)) (fun h=> .inr (.inr h)),(h.lt id b qj).1,fun i hm=>by by_cases e:i=id;·{simp[F',e]at hm};·exact e (h.cR i id b (hsub i b hm) qj)⟩;rw[hv,Nat.zero_mul,Nat.add_zero];exact .aP rm bz (gu uR)};·simp only[aj,if_neg e];exact gu (h.slot t)};·{by_cases e:i=id;·{subst e;simp[aj]at hr};·simp only[aj,if_neg e]at hr;have:=(h.obj i r hr).mono (w':=w) (I':=av E w F') (β':=β) hI (fun _ _=>rfl) (fun _ _ h=>h);simpa[F',e]using this};·{by_cases e:i=id;·{simp[F',e]};·simp only[F',if_neg e];refine h.dead i fun r hr=>hi' r ?_;simp[aj,e,hr]};·{by_cases e:i=id;·{simp[F',e]};·simpa[F',e]using h.nd i};·by_cases e:i=id;·{subst e;simp[aj]at hi'};·simp only[aj,if_neg e]at hi';exact h.dom i hi'};·cases hf};·cases hf};·{exact h.rf hf};·{exact h.rf hf};·{exact h.rf hf};·{simp only[AC]at hf;subst hf;exact⟨F,h⟩};·cases hf
theorem Zf{S S':ah}{s:Nat}(h:wu S s=some S'):S'.n=S.n:=by
 unfold wu rf at h
 repeat'(first
  |(simp only[reduceCtorEq]at h;done)
  |(simp only[AC]at h;subst h;rfl)
  |split at h)
theorem Fa:∀{l:List Nat}{S S':ah},jJ l S=some S'->S'.n=S.n|[],S,S',h=>by{simp only[jJ,AC]at h;rw[h]}|s::l,S,S',h=>by obtain⟨aR,h1,h2⟩:=Option.bind_eq_some_iff.1 h;rw[Fa h2,Zf h1]
theorem aL.jJ:∀{l:List Nat}{S S':ah},aL C E S a w->Ab.jJ l S=some S'->aL C E S' a w|[],S,S',h,e=>by{simp only[Ab.jJ,AC]at e;rw[<-e];exact h}|s::l,S,S',h,e=>by obtain⟨aR,h1,h2⟩:=Option.bind_eq_some_iff.1 e;obtain⟨β,F,hS⟩:=h;obtain⟨F',k9⟩:=hS.wu h1;exact aL.jJ ⟨β,F',k9⟩ h2
theorem aeR(h:aL C E S a w){p s:Nat}{S':ah}(hf:tv p S s=some S'):aL C E S' a w:=by obtain⟨β,F,h⟩:=h;unfold tv at hf;split at hf;·{rename_i id amf alq hs;split at hf;·{rename_i r hid;split at hf;·{simp only[AC]at hf;subst hf;exact⟨β,F,h⟩};·split at hf;·{rename_i hc;simp only[AC]at hf;subst hf;have hv:=h.slot s;rw[hs]at hv;obtain⟨_,b,o,sz,n,hb,_⟩:=hv.mR;have e1:(r.drop 0).take r.length=r:=by{simp};obtain⟨β',F',vs,hS,_⟩:=h.Lu (p:=[p,s]) (row:=0) (off:=0) (n:=r.length) hid hb rfl (by omega) (by rw[e1];exact hc.2) (fun q hq=>h.ns s hc.1 (q++[p]) (by simpa using hq));rw[e1]at hS;simp only[List.set_cons_zero,List.take_zero,List.nil_append,Nat.zero_add,List.drop_length,List.append_nil]at hS;exact⟨β',F',hS⟩};·cases hf};·cases hf};·cases hf
theorem aeQ{S S':ah}{p s:Nat}(h:tv p S s=some S'):S'.n=S.n:=by
 unfold tv at h
 repeat'(first
  |(simp only[reduceCtorEq]at h;done)
  |(simp only[AC]at h;subst h;rfl)
  |split at h)
theorem QS:∀{l:List Nat}{p:Nat}{S S':ah},mc p l S=some S'->S'.n=S.n|[],_,S,S',h=>by{simp only[mc,AC]at h;rw[h]}|s::l,p,S,S',h=>by obtain⟨aR,h1,h2⟩:=Option.bind_eq_some_iff.1 h;rw[QS h2,aeQ h1]
theorem aL.mc:∀{l:List Nat}{p:Nat}{S S':ah},aL C E S a w->Ab.mc p l S=some S'->aL C E S' a w|[],_,S,S',h,e=>by{simp only[Ab.mc,AC]at e;rw[<-e];exact h}|s::l,p,S,S',h,e=>by obtain⟨aR,h1,h2⟩:=Option.bind_eq_some_iff.1 e;exact aL.mc (aeR h h1) h2
theorem Nr{f:FuncId}{id:Nat}{S S':ah}(h:kD C f id S=some S'):S'.n=S.n:=by obtain⟨gm,h0,h⟩:=Option.bind_eq_some_iff.1 h;obtain⟨aR,h1,h2⟩:=Option.bind_eq_some_iff.1 h;rw[y7 h2,Fa h1,QS h0]
theorem aL.kD{f:FuncId}{id:Nat}(ho:∀b l,C.iF f id=some (b,l)->fo l){S S':ah}(h:aL C E S a w)(hc:Ab.kD C f id S=some S'):aL C E S' a w:=by obtain⟨gm,h0,hc⟩:=Option.bind_eq_some_iff.1 hc;obtain⟨aR,h1,h2⟩:=Option.bind_eq_some_iff.1 hc;exact(aL.jJ (aL.mc h h0) h1).cut ho h2
structure qM(C:ax):Prop where
 r:∀f i b l,C.iF f i=some (b,l)->fo l
 b:∀f i b l,C.oW f i=some (b,l)->fo l
 s:∀f i b l,C.EP f i=some (b,l)->fo l
theorem qM.seq(h:qM C){c:Code}:∀b l,je C f c=some (b,l)->fo l:=by unfold je;split;·{exact h.s f _};·intro b l e;cases e
end
open Go
def iQ:Option Nat->Fence|none=>Fence.wide|some l=>Fence.wide.inRound l
theorem Ef(ro:Option Nat)(f:FuncId):(iQ ro).fn f:=by cases ro<;>trivial
theorem yq(ro:Option Nat):(iQ ro).depth.isSome=true->1<=0:=by cases ro<;>(intro h;cases h)
theorem MZ{ro:Option Nat}{n:Nat}{P:Program}{f:FuncId}{args:Array Value}{w:World}{R:Ending->World->Prop}(h:Calls P f args w R):CallsIn (iQ ro) n P f args w R:=by have:=callsIn_wide (n:=n)|>.2 h;cases ro with|none=>(exact this)|some l=>exact this.inRound l
theorem RM{ro:Option Nat}{n:Nat}{P:Program}{row:String}{args:Array Value}{w:World}{R:Value->World->Prop}(h:_root_.Go.Rows P row args w R):RowsIn (iQ ro) n P row args w R:=by intro c cs _;obtain⟨v,w',h1,h2⟩:=h c cs;refine⟨v,w',h1, ?_⟩;cases ro with|none=>(exact stepsIn_wide.2 h2)|some l=>exact stepsIn_wide.2 h2
def vb(ops:Array Oper):Bool:=ops.all fun o=>match o.op with| .defer _=>false|_=>true
section
variable{P:Program}{ops:Array Oper}{Q:Exit->Act->World->Prop}{ro:Option Nat}
theorem aeS{o:Oper}{a:Act}{w:World}{K K':Act->World->Prop}(hd:∀c,o.op≠ .defer c)(hK:∀a w,K a w->K' a w)(h:o.wp P a w K Q):o.wpIn (iQ ro) 0 P a w K' Q:=by refine⟨fun f _=>Ef ro f, ?_⟩;rw[Oper.semAt_eq _ _ _ hd];unfold Oper.wp at h;generalize(execOp a.eval o).run P w=r at*;cases r with|ok x w'=>(cases x with|value v=>(exact hK _ _ h)|skip=>(exact hK _ _ h)|defer d=>(exact hK _ _ h)|enter f args=>(exact⟨yq ro,MZ (h.mono fun e w'' he=>by cases e<;>first|exact hK _ _ he|exact he)⟩)|row row args=>(exact⟨yq ro,RM (h.mono fun v w'' he=>hK _ _ he)⟩)|round l f tmps assign body=>(exact h.elim)|_=>exact h)|halt x w'=>cases x<;>exact h
theorem adF(h:vb ops=true){i:Nat}{o:Oper}(ho:ops[i]? =some o)(c:Call):o.op≠ .defer c:=by intro e;unfold vb at h;rw[Array.all_eq_true_iff_forall_mem]at h;have:=h o (Array.mem_of_getElem? ho);rw[e]at this;cases this
theorem SK(hd:vb ops=true)(k8:¬LetsOut Q){i:Nat}{a:Act}{w:World}{K K':Act->World->Prop}(hK:∀a w,K a w->K' a w)(h:wpOp P ops Q i K a w):wpOpIn (iQ ro) 0 P ops Q i K' a w:=by unfold wpOp at h;unfold wpOpIn;cases ho:ops[i]? with|none=>(rw[ho]at h;exact hK _ _ h)|some o=>rw[ho]at h;simp only at h|-;split at h;·{rename_i hw;rw[if_pos hw];rcases h with h|h;·{exact aeS (adF hd ho) hK h};·exact absurd h.2 k8};·rename_i hw;rw[if_neg hw];exact⟨fun f _=>Ef ro f,hK _ _ h⟩
theorem LC(hd:vb ops=true)(k8:¬LetsOut Q):∀(l:List Nat)(a:Act)(w:World),wpOps P ops Q l a w->wpOpsIn (iQ ro) 0 P ops Q l a w|[],_,_,h=>h|i::l,a,w,h=>by rw[wpOpsIn_cons];rw[wpOps_cons]at h;exact SK hd k8 (fun a w=>LC hd k8 l a w) h
theorem LA{md:Region.Mode}(hd:vb ops=true)(k8:¬LetsOut Q):∀(n:Nat)(listed:Array Bool)(a:Act)(w:World),wpAny P md ops Q n listed a w->wpAnyIn (iQ ro) 0 P md ops Q n listed a w|0,_,_,_,h=>h|n+1,listed,a,w,h=>⟨h.1,fun i hi=>SK hd k8 (fun a w=>LA hd k8 n _ a w) (h.2 i hi)⟩
end
/-! ### The record, the block of deferred calls -/
def vf:Obj->Bool| .cells .. =>false| .map .. =>false|_=>true
section
variable{C:ax}{E:Env}{w:World}{S:ah}{a:Act}{β:Id->Option Loc}{F:Id->List Nat}
theorem e3.ve{b k:Nat}{vs:List Value}{o:Obj}(h:e3 w b k vs)(ho:w.heap[b]? =some o)(hd:vf o=true):vs=[]:=by cases vs with|nil=>(rfl)|cons v vs=>have:=h 0 v rfl;unfold World.cell? at this;simp only[ho]at this;cases o<;>simp_all[vf]
theorem nk.ve{b:Nat}{o:Obj}{r:Ab.Rows}(h:nk w b r)(ho:w.heap[b]? =some o):vf o=false:=by obtain⟨es,c,h1,_⟩:=h;rw[h1]at ho;cases ho;rfl
theorem R.ve{I:Nat->Prop}{f:List Nat}{v:Value}{x:U}{w':World}(h:R w I β f v x)(hw:∀(b:Nat)(o:Obj),w.heap[b]? =some o->vf o=false->w'.heap[b]? =some o):R w' I β f v x:=by have hC:∀{b k:Nat}{vs:List Value},e3 w b k vs->e3 w' b k vs:=fun{b k vs}hc=>by{cases ho:w.heap[b]? with|none=>(have:vs=[]:=by{cases vs with|nil=>(rfl)|cons v vs=>have:=hc 0 v rfl;unfold World.cell? at this;simp[ho]at this};subst this;intro k v hk;simp at hk)|some o=>cases hd:vf o with|true=>(rw[hc.ve ho hd];intro k v hk;simp at hk)|false=>exact hc.mono (by rw[hw b o ho hd,ho])};have hB:∀{b n:Nat},fM w b n->fM w' b n:=fun{b n}hb=>by{obtain⟨c,e,h1,h2⟩:=hb;exact⟨c,e,hw b _ h1 rfl,h2⟩};have rq:∀{b:Nat}{rows:Ab.Rows},nk w b rows->nk w' b rows:=fun{b rows}hb=>by{obtain⟨es,c,h1,h2⟩:=hb;exact⟨es,c,hw b _ h1 rfl,h2⟩};induction h with|val h=>(exact .val h)|bW=>(exact .bW)|gi=>(exact .gi)|sl h1 h2 h3 h4 _ ih=>(exact .sl h1 h2 (hC h3) h4 ih)|aP h1 h2 _ ih=>(exact .aP h1 (hC h2) ih)|iA h hl=>(exact .iA h hl)|rs h1 h2 h3=>(exact .rs h1 h2 h3)|mp h=>(exact .mp h)|fn _ _ ih1 ih2=>(exact .fn ih1 ih2)|nil=>(exact .nil)|cons _ _ ih1 ih2=>(exact .cons ih1 ih2)|aI _ ih=>(exact .aI ih)|jB=>(exact .jB)|own h0 h1 h2 h3 h4 h5 _ ih=>(exact .own h0 h1 (hB h2) h3 h4 (hC h5) ih)|kj h0 h1 h2 h3 h5 _ ih=>(exact .kj h0 h1 (hB h2) h3 (hC h5) ih)|bf h1 h2 h3 _ ih=>(exact .bf (hB h1) h2 (hC h3) ih)|qf _ ih=>(exact .qf ih)|qe=>(exact .qe)|nn=>(exact .nn)|mr h=>(exact .mr h)|ey h=>(exact .ey (rq h))|im h1 h2=>(exact .im h1 (rq h2))|aF=>exact .aF
theorem dx.ve{I:Nat->Prop}{id:Id}{rows:Ab.Rows}{fp:List Nat}{w':World}(h:dx w I β id rows fp)(hw:∀(b:Nat)(o:Obj),w.heap[b]? =some o->vf o=false->w'.heap[b]? =some o):dx w' I β id rows fp:=by rcases h with h|⟨b,h1,h2,es,c,h3,h4⟩|⟨b,o,sz,n,vs,cx,h1,h2,⟨c,e,h3,oZ⟩,h4,h5,h6,h7⟩;·{exact .inl h};·{exact .inr (.inl ⟨b,h1,h2,es,c,hw b _ h3 rfl,h4⟩)};·exact .inr (.inr ⟨b,o,sz,n,vs,cx,h1,h2,⟨c,e,hw b _ h3 rfl,oZ⟩,h4,h5,h6.mono (by rw[hw b _ h3 rfl,h3]),h7.ve hw⟩)
theorem ay.xN(h:ay C E w S a β F){l:Nat}{o o':Obj}(hl:w.heap[l]? =some o)(ho:vf o=true)(hE:E.w0.heap.size<=l){a':Act}(ht:a'.tmps=a.tmps)(hdf:iP (w.putObj l o') (fun b=>av E w F b∧E.m<=b) E.ds a'.defers):ay C E (w.putObj l o') S a' β F:=by have hlt:=lt_of_heap hl;have hw:∀(b:Nat)(x:Obj),w.heap[b]? =some x->vf x=false->(w.putObj l o').heap[b]? =some x:=fun b x hb hx=>by{have:b≠l:=fun e=>by{subst e;rw[hl]at hb;cases hb;rw[ho]at hx;cases hx};rw[World.putObj_heap_other this,hb]};have oc:∀b,av E (w.putObj l o') F b↔av E w F b:=fun b=>by{unfold av;rw[World.putObj_size]};have hI:av E (w.putObj l o') F=av E w F:=funext fun b=>propext (oc b);refine{n:=by rw[ht];exact h.n,df:=by rw[hI];exact hdf,slot:=fun t=>by rw[hI,ht];exact(h.slot t).ve hw,obj:=fun id rows hr=>by rw[hI];exact(h.obj id rows hr).ve hw,dead:=h.dead,nd:=h.nd,cR:=h.cR,dom:=h.dom,lt:=fun id b hb=>by rw[World.putObj_size];exact h.lt id b hb,kept:= ?_,bS:=fun g cs hg=>by rw[hI];exact(h.bS g cs hg).ve hw,ns:=h.ns,kb:=h.kb};refine⟨by rw[World.putObj_size];exact h.kept.size,fun b hb hf=> ?_,h.kept.os,h.kept.out,fun x hx=> ?_,fun b n hB=> ?_⟩;·{rw[World.putObj_heap_other (by omega)];exact h.kept.blk b hb hf};·{rw[<-h.kept.dY x hx];exact World.frozen?_of_block (World.putObj_heap_other (by omega))};·obtain⟨c,e,h1,h2⟩:=h.kept.mq b n hB;exact⟨c,e,hw b _ h1 rfl,h2⟩
theorem ay.VM(h:ay C E w S a β F)(o:Obj){a':Act}(ht:a'.tmps=a.tmps)(hdf:iP (w.alloc o) (fun b=>av E (w.alloc o) F b∧E.m<=b) E.ds a'.defers):ay C E (w.alloc o) S a' β F:=by have hold:∀b,b<w.heap.size->(w.alloc o).heap[b]? =w.heap[b]? :=fun b hb=>RowKit.Below.heap_alloc w o b hb;have h1:=h.AL (w':=w.alloc o) (S':=S) (a':=a) (β':=β) (F':=F) (fun _=>False) h.n (by simp) rfl rfl (fun x hx=>World.frozen?_of_block (hold _ hx)) (fun b hb _=>hold b hb) (fun _ _ h=>h) (fun id b hb=> .inl ⟨id,hb⟩) (fun _ _=>⟨rfl,rfl⟩) (fun _ _ hf=>hf.elim) (fun _ hf=>hf.elim) (fun _ hf=>hf.elim) (fun _ _ _ hf=>hf.elim) h.dom (fun _ t=> .inl ⟨rfl,rfl⟩) (e8:=uy hold);exact{n:=by rw[ht];exact h1.n,df:=hdf,slot:=fun t=>by rw[ht];exact h1.slot t,obj:=h1.obj,dead:=h1.dead,nd:=h1.nd,cR:=h1.cR,dom:=h1.dom,lt:=h1.lt,kept:=h1.kept,bS:=h1.bS,ns:=h1.ns,kb:=h1.kb}
def Env.at(E:Env)(w:World)(F:Id->List Nat):Env:=⟨w,fun b=>∃id,b∈F id,av E w F,min E.m w.heap.size,Nat.min_le_right _ _,E.K,E.rG,E.u5,E.ds⟩
theorem LO{b:Nat}:av (E.at w F) w F b↔av E w F b:=by constructor;·{rintro⟨h|⟨id,h⟩|h,h2,h3⟩;·{exact h};·{exact absurd h (h3 id)};·exact absurd h2 (Nat.not_lt.2 h)};·intro h;exact⟨.inl h,h.2⟩
theorem ay.Gs(h:ay C E w S a β F):ay C (E.at w F) w S a β F:=by have hI:av (E.at w F) w F=av E w F:=funext fun b=>propext LO;exact{n:=h.n,df:=by rw[hI];exact h.df.mono (fun b hb=>⟨hb.1,Nat.le_trans (Nat.min_le_left _ _) hb.2⟩) (fun _ _=>rfl),slot:=fun t=>by rw[hI];exact h.slot t,obj:=fun id rows hr=>by rw[hI];exact h.obj id rows hr,dead:=h.dead,nd:=h.nd,cR:=h.cR,dom:=h.dom,lt:=fun id b hb=>⟨(h.lt id b hb).1, .inl ⟨id,hb⟩⟩,kept:=Kept.refl _ _,bS:=fun g cs hg=>by rw[hI];exact h.bS g cs hg,ns:=h.ns,kb:=h.kb}
theorem ay.back (h : ay C E w S a β F) {w' : World} {S' : ah} {a' : Act} {β' : Id -> Option Loc} {F' : Id -> List Nat} (h' : ay C (E.at w F) w' S' a' β' F') :
    ay C E w' S' a' β' F' ∧ (∀ b, b < w.heap.size -> (∀ id, b ∉ F id) -> w'.heap[b]? = w.heap[b]? ∧ ∀ id, b ∉ F' id) ∧ ∀ b, av E w F b -> av E w' F' b := by
  have hsz := h'.kept.size
  have hI : ∀ b, av (E.at w F) w' F' b -> av E w' F' b := fun b ⟨h1, h2, h3⟩ => by
    refine ⟨?_, h2, h3⟩
    rcases h1 with h1 | ⟨id, h1⟩ | h1
    · exact h1.1
    · exact (h.lt id b h1).2.imp (fun h => h) (fun h => h) |>.elim (fun h => .inr (.inl h)) (fun h => .inr (.inr h))
    · exact .inr (.inr (Do h.kept.size h1))
  have hfree : ∀ b, b < w.heap.size -> (∀ id, b ∉ F id) -> w'.heap[b]? = w.heap[b]? ∧ ∀ id, b ∉ F' id := fun b hb hn => by
    refine ⟨h'.kept.blk b hb (fun ⟨id, hm⟩ => hn id hm), fun id hm => ?_⟩
    rcases (h'.lt id b hm).2 with ⟨j, hj⟩ | h2
    · exact hn j hj
    · exact absurd hb (Nat.not_lt.2 h2)
  have hme : min E.m w.heap.size = E.m := Nat.min_eq_left (Do E.le h.kept.size)
  refine ⟨{ n := h'.n, df := h'.df.mono (fun b hb => ⟨hI b hb.1, hme ▸ hb.2⟩) (fun _ _ => rfl), slot := fun t => (h'.slot t).mono hI (fun _ _ => rfl) (fun _ _ h => h), obj := fun id rows hr => (h'.obj id rows hr).mono hI (fun _ _ => rfl) (fun _ _ h => h), dead := h'.dead, nd := h'.nd, cR := h'.cR, dom := h'.dom, lt := fun id b hb => ⟨(h'.lt id b hb).1, ?_⟩, kept := ?_, bS := fun g cs hg => (h'.bS g cs hg).mono hI (fun _ _ => rfl) (fun _ _ h => h), ns := h'.ns, kb := h'.kb }, hfree, fun b hb => ⟨hb.1, GE hb.2.1 hsz, (hfree b hb.2.1 hb.2.2).2⟩⟩
  · rcases (h'.lt id b hb).2 with ⟨j, hj⟩ | h2
    · exact (h.lt j b hj).2
    · exact .inr (Do h.kept.size h2)
  · refine ⟨Do h.kept.size hsz, fun b hb hf => ?_, h'.kept.os.trans h.kept.os, h'.kept.out.trans h.kept.out, fun x hx => (h'.kept.dY x (GE hx h.kept.size)).trans (h.kept.dY x hx), fun b n hB => h'.kept.mq b n (h.kept.mq b n hB)⟩
    rw [(hfree b (GE hb h.kept.size) fun id hm => ?_).1]
    · exact h.kept.blk b hb hf
    · rcases (h.lt id b hm).2 with h2 | h2
      · exact hf h2
      · exact absurd hb (Nat.not_lt.2 h2)
theorem ay.KZ(h:ay C E w S a β F){S':ah}{a':Act}(ds:List Deferred)(hn:a'.tmps.size=S'.n)(hh:S'.h=S.h)(hdf:iP w (fun b=>av E w F b∧E.m<=b) ds a'.defers)(hs:∀t,R w (av E w F) β [] (a'.tmps.getD t undef) (S'.t t))(sV:S'.n=S.n:=by rfl):ay C {E with ds:=ds} w S' a' β F:={n:=hn,df:=hdf,slot:=hs,obj:=fun id rows hr=>h.obj id rows (by rw[<-hh];exact hr),dead:=fun id hd=>h.dead id (fun rows=>by rw[<-hh];exact hd rows),nd:=h.nd,cR:=h.cR,dom:=fun id hi=>h.dom id (by rw[<-hh];exact hi),lt:=h.lt,kept:=h.kept,bS:=h.bS,ns:=fun t ht=>h.ns t (sV▸ht),kb:=fun k rows hk hr=>h.kb k rows hk (by rw[<-hh];exact hr)}
theorem ay.re(h:ay C E w S a β F){S':ah}{a':Act}(hn:a'.tmps.size=S'.n)(hh:S'.h=S.h)(hdf:iP w (fun b=>av E w F b∧E.m<=b) E.ds a'.defers)(hs:∀t,R w (av E w F) β [] (a'.tmps.getD t undef) (S'.t t))(sV:S'.n=S.n:=by rfl):ay C E w S' a' β F:=h.KZ E.ds hn hh hdf hs sV
end
end Go.Ab
