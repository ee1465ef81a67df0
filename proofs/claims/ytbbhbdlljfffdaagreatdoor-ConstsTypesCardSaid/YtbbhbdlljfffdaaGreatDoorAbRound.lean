import Derived.Test.YtbbhbdlljfffdaaGreatDoorAbDraw
import Derived.Deep.LoopGhost
import Derived.RangeFuncCalls
import Derived.OrdersIn
open Nat renaming le_trans->Do,lt_of_lt_of_le->GE
open Option.some renaming injEq->AC
set_option linter.all false
namespace Go.Ab
open Go
section
variable{C:aF}{E:Env}{w:World}{S:ah}{a:Act}{β:Id->Option Loc}{F:Id->List Nat}
variable{f:FuncId}{call:FuncId->List U->Option (U×List U)}
theorem MF(h:aG C E w S a β F):∀{slots:List Nat}{x},j8 S.h S.t slots=some x->
  ∃fp rest,av w (aB E w F) bL fp (slots.map (a.tmps.getD · undef)) x.1∧(fp++rest).Perm (x.2.flatMap F)
 |[],x,hx=>by
  simp[j8]at hx;subst hx
  exact⟨[],[], .nil,by simp⟩
 |s::l,x,hx=>by
  simp only[j8,Option.bind_eq_some_iff,Option.map_eq_some_iff]at hx
  obtain⟨y,hy,z,hz,rfl⟩:=hx
  obtain⟨lW,r1,g1,g2⟩:=vV h.obj 9 _ _ hy _ _ (h.slot s)
  obtain⟨jU,r2,g3,g4⟩:=MF h hz
  refine⟨lW++jU,r1++r2, .cons g1 g3, ?_⟩
  have :=sF (f1:=[]) (f2:=[]) g2 (by simpa using g4)
  simpa[List.flatMap_append]using this
theorem aG.jG(h:aG C E w S a β F){slots:List Nat}{b9:List U}(hs:fN slots)(hr:jG S slots=some b9):br C E (aH S.n slots b9) a w:=by unfold Ab.jG at hr;split at hr;·{rename_i Vp ids hp;split at hr;·{rename_i hnd;simp only[AC]at hr;subst hr;obtain⟨fp,rest,g1,g2⟩:=MF h hp;have hmem:∀b∈fp,∃id,b∈F id:=fun b hb=>by{obtain⟨id,_,hid⟩:=List.mem_flatMap.1 (A1 g2 hb);exact⟨id,hid⟩};refine aG.enter (I:=aB E w F) h.n h.df g1 hs.nd (HP g2 (CD h (AT hnd))) (fun b hb=>⟨hb.1,hb.2.1,fun hm=> ?_⟩) (fun b hb=> ?_) h.kept (fun g cs hg=>(h.cu g cs hg).qm rfl fun _ h=>h) h.ns hs.DX;·{obtain⟨id,hid⟩:=hmem b hm;exact hb.2.2 id hid};·obtain⟨id,hid⟩:=hmem b hb;exact h.lt id b hid};·cases hr};·cases hr
theorem zO{o:Option (Bool×List Nat)}{S S':ah}(h:dr o S=some S'):S'.n=S.n:=by unfold dr at h;split at h;·{simp only[AC]at h;rw[h]};·{exact Mo h};·obtain⟨t,_,rfl⟩:=Option.map_eq_some_iff.1 h;exact AQ ..
theorem br.cut{o:Option (Bool×List Nat)}(ho:∀b l,o=some (b,l)->fN l){S S':ah}(h:br C E S a w)(hc:dr o S=some S'):br C E S' a w:=by unfold dr at hc;split at hc;·{simp only[AC]at hc;rw[<-hc];exact h};·{obtain⟨β,F,hS⟩:=h;exact hS.norm (ho _ _ rfl) hc};·obtain⟨t,h1,rfl⟩:=Option.map_eq_some_iff.1 hc;obtain⟨β,F,hS⟩:=h;exact hS.jG (ho _ _ rfl) h1
theorem aG.qa(h:aG C E w S a β F){s:Nat}{S':ah}(hf:Ab.qa S s=some S'):∃F',aG C E w S' a β F':=by unfold Ab.qa at hf;split at hf;(case h_2=>cases hf);rename_i v ids hpk;split at hf;(case isFalse=>cases hf);rename_i hnd;simp only[AC]at hf;subst hf;obtain⟨fp,rest,g1,g2⟩:=vV h.obj 9 _ _ hpk _ _ (h.slot s);simp only[List.nil_append]at g2;have hmem:∀b∈fp,∃id∈ids,b∈F id:=fun b hb=>by{obtain⟨id,h1,hid⟩:=List.mem_flatMap.1 (A1 g2 hb);exact⟨id,h1,hid⟩};let F':Id->List Nat:=fun i=>if i∈ids then[]else F i;have hsub:∀i b,b∈F' i->b∈F i:=fun i b hb=>by{by_cases e:i∈ids;·{simp[F',e]at hb};·simpa[F',e]using hb};have hI:∀b,aB E w F b->aB E w F' b:=fun b hb=>⟨hb.1,hb.2.1,fun i hm=>hb.2.2 i (hsub i b hm)⟩;have adQ:∀b∈fp,aB E w F' b:=fun b hb=>by{obtain⟨id,hid,q2⟩:=hmem b hb;refine⟨(h.lt id b q2).2.elim (fun h=> .inr (.inl h)) (fun h=> .inr (.inr h)),(h.lt id b q2).1,fun i hm=> ?_⟩;by_cases e:i∈ids;·{simp[F',e]at hm};·have:=h.cV i id b (hsub i b hm) q2;subst this;exact e hid};have gJ:∀{β':Id->Option Loc}{f:List Nat}{v:Value}{x:U},R w (aB E w F) β' f v x->R w (aB E w F') β' f v x:=fun hr=>hr.mono hI (fun _ _=>rfl) (fun _ _ h=>h);have sg:∀i rows,aZ S.h (ids.map fun i=>(i,none)) i=some (some rows)->i∉ids∧S.h i=some (some rows):=fun i rows hr=>by{rcases gk S.h (ids.map fun i=>(i,none)) i with⟨x,hx,e1,e2⟩|⟨h1,h2⟩;·{obtain⟨j,hj,rfl⟩:=List.mem_map.1 hx;rw[e2]at hr;cases hr};·refine⟨fun hm=>h1 (i,none) (List.mem_map.2 ⟨i,hm,rfl⟩) rfl, ?_⟩;rw[h2]at hr;exact hr};have hnone:∀i,aZ S.h (ids.map fun i=>(i,none)) i=none->S.h i=none:=fun i hr=>by{rcases gk S.h (ids.map fun i=>(i,none)) i with⟨x,hx,e1,e2⟩|⟨h1,h2⟩;·{rw[e2]at hr;cases hr};·rw[h2]at hr;exact hr};have hal:∀i rows,i∉ids->S.h i=some (some rows)->aZ S.h (ids.map fun i=>(i,none)) i=some (some rows):=fun i rows hni hr=>by{rcases gk S.h (ids.map fun i=>(i,none)) i with⟨x,hx,e1,e2⟩|⟨h1,h2⟩;·{obtain⟨j,hj,rfl⟩:=List.mem_map.1 hx;exact absurd (show i∈ids from e1▸hj) hni};·rw[h2];exact hr};refine⟨F', ?_⟩;refine{n:=h.n,df:=h.df.mono (fun b hb=>⟨hI b hb.1,hb.2⟩) (fun _ _=>rfl),slot:=fun t=> ?_,obj:=fun i r hr=> ?_,dead:=fun i hi'=> ?_,nd:=fun i=> ?_,cV:=fun i j b hb hb'=>h.cV i j b (hsub i b hb) (hsub j b hb'),dom:=fun i hi'=>h.dom i (hnone i hi'),lt:=fun i b hb=>h.lt i b (hsub i b hb),kept:=h.kept,cu:=fun g cs hg=>gJ (h.cu g cs hg),ns:=h.ns,kb:=fun k r hk hr=>h.kb k r hk (sg k r hr).2};·{by_cases e:t=s;·{subst e;simp only[aj,if_true];exact((g1.dF (fun b hb=>hI b hb) adQ).mono (fun _ h=>h) (fun _ _=>rfl) yt)};·simp only[aj,if_neg e];exact gJ (h.slot t)};·{obtain⟨e,hr'⟩:=sg i r hr;have:=(h.obj i r hr').mono (w':=w) (I':=aB E w F') (β':=β) hI (fun _ _=>rfl) (fun _ _ h=>h);simpa[F',e]using this};·{by_cases e:i∈ids;·{simp[F',e]};·simp only[F',if_neg e];exact h.dead i fun r hr=>hi' r (hal i r e hr)};·by_cases e:i∈ids;·{simp[F',e]};·simpa[F',e]using h.nd i
theorem aG.p9(h:aG C E w S a β F){s:Nat}{S':ah}(hf:Ab.p9 S s=some S'):∃F',aG C E w S' a β F':=by unfold Ab.p9 at hf;split at hf;·{rename_i id hs;split at hf;·{rename_i cells hid;split at hf;·{rename_i hi;simp only[AC]at hf;subst hf;have xR:=h.obj id [cells] hid;let F':Id->List Nat:=fun i=>if i=id then[]else F i;have hsub:∀i b,b∈F' i->b∈F i:=fun i b hb=>by{by_cases e:i=id;·{simp[F',e]at hb};·simpa[F',e]using hb};have hI:∀b,aB E w F b->aB E w F' b:=fun b hb=>⟨hb.1,hb.2.1,fun i hm=>hb.2.2 i (hsub i b hm)⟩;have gJ:∀{β':Id->Option Loc}{f:List Nat}{v:Value}{x:U},R w (aB E w F) β' f v x->R w (aB E w F') β' f v x:=fun hr=>hr.mono hI (fun _ _=>rfl) (fun _ _ h=>h);refine⟨F', ?_⟩;refine{n:=h.n,df:=h.df.mono (fun b hb=>⟨hI b hb.1,hb.2⟩) (fun _ _=>rfl),slot:=fun t=> ?_,obj:=fun i r hr=> ?_,dead:=fun i hi'=> ?_,nd:=fun i=> ?_,cV:=fun i j b hb hb'=>h.cV i j b (hsub i b hb) (hsub j b hb'),dom:=fun i hi'=> ?_,lt:=fun i b hb=>h.lt i b (hsub i b hb),kept:=h.kept,cu:=fun g cs hg=>gJ (h.cu g cs hg),ns:=h.ns,kb:=fun k r hk hr=>h.kb k r hk (by by_cases e:k=id;·{subst e;simp[aj]at hr};·simpa[aj,e]using hr)};·{by_cases e:t=s;·{subst e;have hv:=h.slot t;rw[hs]at hv;simp only[aj,if_true];obtain⟨_,b,o,sz,n,hb,hv⟩:=hv.o6;obtain⟨vs,cF,eO,hB,⟨_,hrows⟩,aeH,bU,hl⟩:=xR.at hb;simp only[List.flatten_cons,List.flatten_nil,List.append_nil]at hl;have vn:av w (aB E w F) bL cF vs cells:=R.og hl (by simpa[fA]using hi);have C2:cF=[]:=R.LI hl (by simpa[fA]using hi);subst C2;have q2:b∈F id:=by{rw[eO];exact List.mem_cons_self .. };have sd:aB E w F' b:=⟨(h.lt id b q2).2.elim (fun h=> .inr (.inl h)) (fun h=> .inr (.inr h)),(h.lt id b q2).1,fun i hm=>by by_cases e:i=id;·{simp[F',e]at hm};·exact e (h.cV i id b (hsub i b hm) q2)⟩;rw[hv,Nat.zero_mul,Nat.add_zero];exact .ay sd bU (gJ vn)};·simp only[aj,if_neg e];exact gJ (h.slot t)};·{by_cases e:i=id;·{subst e;simp[aj]at hr};·simp only[aj,if_neg e]at hr;have:=(h.obj i r hr).mono (w':=w) (I':=aB E w F') (β':=β) hI (fun _ _=>rfl) (fun _ _ h=>h);simpa[F',e]using this};·{by_cases e:i=id;·{simp[F',e]};·simp only[F',if_neg e];refine h.dead i fun r hr=>hi' r ?_;simp[aj,e,hr]};·{by_cases e:i=id;·{simp[F',e]};·simpa[F',e]using h.nd i};·by_cases e:i=id;·{subst e;simp[aj]at hi'};·simp only[aj,if_neg e]at hi';exact h.dom i hi'};·cases hf};·cases hf};·{exact h.qa hf};·{exact h.qa hf};·{exact h.qa hf};·{simp only[AC]at hf;subst hf;exact⟨F,h⟩};·cases hf
theorem acQ{S S':ah}{s:Nat}(h:p9 S s=some S'):S'.n=S.n:=by
 unfold p9 qa at h
 repeat'(first
  |(simp only[reduceCtorEq]at h;done)
  |(simp only[AC]at h;subst h;rfl)
  |split at h)
theorem J4:∀{l:List Nat}{S S':ah},lf l S=some S'->S'.n=S.n|[],S,S',h=>by{simp only[lf,AC]at h;rw[h]}|s::l,S,S',h=>by obtain⟨bx,h1,h2⟩:=Option.bind_eq_some_iff.1 h;rw[J4 h2,acQ h1]
theorem br.lf:∀{l:List Nat}{S S':ah},br C E S a w->Ab.lf l S=some S'->br C E S' a w|[],S,S',h,e=>by{simp only[Ab.lf,AC]at e;rw[<-e];exact h}|s::l,S,S',h,e=>by obtain⟨bx,h1,h2⟩:=Option.bind_eq_some_iff.1 e;obtain⟨β,F,hS⟩:=h;obtain⟨F',l5⟩:=hS.p9 h1;exact br.lf ⟨β,F',l5⟩ h2
theorem ai0(h:br C E S a w){p s:Nat}{S':ah}(hf:um p S s=some S'):br C E S' a w:=by obtain⟨β,F,h⟩:=h;unfold um at hf;split at hf;·{rename_i id apE aoY hs;split at hf;·{rename_i r hid;split at hf;·{simp only[AC]at hf;subst hf;exact⟨β,F,h⟩};·split at hf;·{rename_i hc;simp only[AC]at hf;subst hf;have hv:=h.slot s;rw[hs]at hv;obtain⟨_,b,o,sz,n,hb,_⟩:=hv.o6;have e1:(r.drop 0).take r.length=r:=by{simp};obtain⟨β',F',vs,hS,_⟩:=h.N4 (p:=[p,s]) (row:=0) (off:=0) (n:=r.length) hid hb rfl (by omega) (by rw[e1];exact hc.2) (fun q hq=>h.ns s hc.1 (q++[p]) (by simpa using hq));rw[e1]at hS;simp only[List.set_cons_zero,List.take_zero,List.nil_append,Nat.zero_add,List.drop_length,List.append_nil]at hS;exact⟨β',F',hS⟩};·cases hf};·cases hf};·cases hf
theorem aiZ{S S':ah}{p s:Nat}(h:um p S s=some S'):S'.n=S.n:=by
 unfold um at h
 repeat'(first
  |(simp only[reduceCtorEq]at h;done)
  |(simp only[AC]at h;subst h;rfl)
  |split at h)
theorem TZ:∀{l:List Nat}{p:Nat}{S S':ah},mV p l S=some S'->S'.n=S.n|[],_,S,S',h=>by{simp only[mV,AC]at h;rw[h]}|s::l,p,S,S',h=>by obtain⟨bx,h1,h2⟩:=Option.bind_eq_some_iff.1 h;rw[TZ h2,aiZ h1]
theorem br.mV:∀{l:List Nat}{p:Nat}{S S':ah},br C E S a w->Ab.mV p l S=some S'->br C E S' a w|[],_,S,S',h,e=>by{simp only[Ab.mV,AC]at e;rw[<-e];exact h}|s::l,p,S,S',h,e=>by obtain⟨bx,h1,h2⟩:=Option.bind_eq_some_iff.1 e;exact br.mV (ai0 h h1) h2
theorem abc{f:FuncId}{id:Nat}{S S':ah}(h:pX C f id S=some S'):S'.n=S.n:=by obtain⟨fT,h0,h⟩:=Option.bind_eq_some_iff.1 h;obtain⟨bx,h1,h2⟩:=Option.bind_eq_some_iff.1 h;rw[zO h2,J4 h1,TZ h0]
theorem br.pX{f:FuncId}{id:Nat}(ho:∀b l,C.jv f id=some (b,l)->fN l){S S':ah}(h:br C E S a w)(hc:Ab.pX C f id S=some S'):br C E S' a w:=by obtain⟨fT,h0,hc⟩:=Option.bind_eq_some_iff.1 hc;obtain⟨bx,h1,h2⟩:=Option.bind_eq_some_iff.1 hc;exact(br.lf (br.mV h h0) h1).cut ho h2
structure rL(C:aF):Prop where
 r:∀f i b l,C.jv f i=some (b,l)->fN l
 b:∀f i b l,C.pW f i=some (b,l)->fN l
 s:∀f i b l,C.FQ f i=some (b,l)->fN l
theorem rL.seq(h:rL C){c:Code}:∀b l,ij C f c=some (b,l)->fN l:=by unfold ij;split;·{exact h.s f _};·intro b l e;cases e
end
open Go
def jM:Option Nat->Fence|none=>Fence.wide|some l=>Fence.wide.inRound l
theorem EZ(ro:Option Nat)(f:FuncId):(jM ro).fn f:=by cases ro<;>trivial
theorem zf(ro:Option Nat):(jM ro).depth.isSome=true->1<=0:=by cases ro<;>(intro h;cases h)
theorem PB{ro:Option Nat}{n:Nat}{P:Program}{f:FuncId}{args:Array Value}{w:World}{R:Ending->World->Prop}(h:Calls P f args w R):CallsIn (jM ro) n P f args w R:=by have:=callsIn_wide (n:=n)|>.2 h;cases ro with|none=>(exact this)|some l=>exact this.inRound l
theorem US{ro:Option Nat}{n:Nat}{P:Program}{row:String}{args:Array Value}{w:World}{R:Value->World->Prop}(h:_root_.Go.Rows P row args w R):RowsIn (jM ro) n P row args w R:=by intro c cs _;obtain⟨v,w',h1,h2⟩:=h c cs;refine⟨v,w',h1, ?_⟩;cases ro with|none=>(exact stepsIn_wide.2 h2)|some l=>exact stepsIn_wide.2 h2
def yu(ops:Array Oper):Bool:=ops.all fun o=>match o.op with| .defer _=>false|_=>true
section
variable{P:Program}{ops:Array Oper}{Q:Exit->Act->World->Prop}{ro:Option Nat}
theorem ai1{o:Oper}{a:Act}{w:World}{K K':Act->World->Prop}(hd:∀c,o.op≠ .defer c)(hK:∀a w,K a w->K' a w)(h:o.wp P a w K Q):o.wpIn (jM ro) 0 P a w K' Q:=by refine⟨fun f _=>EZ ro f, ?_⟩;rw[Oper.semAt_eq _ _ _ hd];unfold Oper.wp at h;generalize(execOp a.eval o).run P w=r at*;cases r with|ok x w'=>(cases x with|value v=>(exact hK _ _ h)|skip=>(exact hK _ _ h)|defer d=>(exact hK _ _ h)|enter f args=>(exact⟨zf ro,PB (h.mono fun e w'' he=>by cases e<;>first|exact hK _ _ he|exact he)⟩)|row row args=>(exact⟨zf ro,US (h.mono fun v w'' he=>hK _ _ he)⟩)|round l f tmps assign body=>(exact h.elim)|_=>exact h)|halt x w'=>cases x<;>exact h
theorem ahB(h:yu ops=true){i:Nat}{o:Oper}(ho:ops[i]? =some o)(c:Call):o.op≠ .defer c:=by intro e;unfold yu at h;rw[Array.all_eq_true_iff_forall_mem]at h;have:=h o (Array.mem_of_getElem? ho);rw[e]at this;cases this
theorem VP(hd:yu ops=true)(oc:¬LetsOut Q){i:Nat}{a:Act}{w:World}{K K':Act->World->Prop}(hK:∀a w,K a w->K' a w)(h:wpOp P ops Q i K a w):wpOpIn (jM ro) 0 P ops Q i K' a w:=by unfold wpOp at h;unfold wpOpIn;cases ho:ops[i]? with|none=>(rw[ho]at h;exact hK _ _ h)|some o=>rw[ho]at h;simp only at h|-;split at h;·{rename_i hw;rw[if_pos hw];rcases h with h|h;·{exact ai1 (ahB hd ho) hK h};·exact absurd h.2 oc};·rename_i hw;rw[if_neg hw];exact⟨fun f _=>EZ ro f,hK _ _ h⟩
theorem VQ(hd:yu ops=true)(oc:¬LetsOut Q):∀(l:List Nat)(a:Act)(w:World),wpOps P ops Q l a w->wpOpsIn (jM ro) 0 P ops Q l a w|[],_,_,h=>h|i::l,a,w,h=>by rw[wpOpsIn_cons];rw[wpOps_cons]at h;exact VP hd oc (fun a w=>VQ hd oc l a w) h
theorem VN{md:Region.Mode}(hd:yu ops=true)(oc:¬LetsOut Q):∀(n:Nat)(listed:Array Bool)(a:Act)(w:World),wpAny P md ops Q n listed a w->wpAnyIn (jM ro) 0 P md ops Q n listed a w|0,_,_,_,h=>h|n+1,listed,a,w,h=>⟨h.1,fun i hi=>VP hd oc (fun a w=>VN hd oc n _ a w) (h.2 i hi)⟩
end
/-! ### The record, the block of deferred calls -/
def vQ:Obj->Bool| .cells .. =>false| .map .. =>false|_=>true
section
variable{C:aF}{E:Env}{w:World}{S:ah}{a:Act}{β:Id->Option Loc}{F:Id->List Nat}
theorem fD.vP{b k:Nat}{vs:List Value}{o:Obj}(h:fD w b k vs)(ho:w.heap[b]? =some o)(hd:vQ o=true):vs=[]:=by cases vs with|nil=>(rfl)|cons v vs=>have:=h 0 v rfl;unfold World.cell? at this;simp only[ho]at this;cases o<;>simp_all[vQ]
theorem nT.vP{b:Nat}{o:Obj}{r:Ab.Rows}(h:nT w b r)(ho:w.heap[b]? =some o):vQ o=false:=by obtain⟨es,c,h1,_⟩:=h;rw[h1]at ho;cases ho;rfl
theorem R.vP{I:Nat->Prop}{f:List Nat}{v:Value}{x:U}{w':World}(h:R w I β f v x)(hw:∀(b:Nat)(o:Obj),w.heap[b]? =some o->vQ o=false->w'.heap[b]? =some o):R w' I β f v x:=by have hC:∀{b k:Nat}{vs:List Value},fD w b k vs->fD w' b k vs:=fun{b k vs}hc=>by{cases ho:w.heap[b]? with|none=>(have:vs=[]:=by{cases vs with|nil=>(rfl)|cons v vs=>have:=hc 0 v rfl;unfold World.cell? at this;simp[ho]at this};subst this;intro k v hk;simp at hk)|some o=>cases hd:vQ o with|true=>(rw[hc.vP ho hd];intro k v hk;simp at hk)|false=>exact hc.mono (by rw[hw b o ho hd,ho])};have hB:∀{b n:Nat},gq w b n->gq w' b n:=fun{b n}hb=>by{obtain⟨c,e,h1,h2⟩:=hb;exact⟨c,e,hw b _ h1 rfl,h2⟩};have kM:∀{b:Nat}{rows:Ab.Rows},nT w b rows->nT w' b rows:=fun{b rows}hb=>by{obtain⟨es,c,h1,h2⟩:=hb;exact⟨es,c,hw b _ h1 rfl,h2⟩};induction h with|val h=>(exact .val h)|ct=>(exact .ct)|gF=>(exact .gF)|sl h1 h2 h3 h4 _ ih=>(exact .sl h1 h2 (hC h3) h4 ih)|ay h1 h2 _ ih=>(exact .ay h1 (hC h2) ih)|iP h hl=>(exact .iP h hl)|rs h1 h2 h3=>(exact .rs h1 h2 h3)|mp h=>(exact .mp h)|fn _ _ ih1 ih2=>(exact .fn ih1 ih2)|nil=>(exact .nil)|cons _ _ ih1 ih2=>(exact .cons ih1 ih2)|aU _ ih=>(exact .aU ih)|j7=>(exact .j7)|own h0 h1 h2 h3 h4 h5 _ ih=>(exact .own h0 h1 (hB h2) h3 h4 (hC h5) ih)|kV h0 h1 h2 h3 h5 _ ih=>(exact .kV h0 h1 (hB h2) h3 (hC h5) ih)|aP h1 h2 h3 _ ih=>(exact .aP (hB h1) h2 (hC h3) ih)|qY _ ih=>(exact .qY ih)|qX=>(exact .qX)|nn=>(exact .nn)|mr h=>(exact .mr h)|ef h=>(exact .ef (kM h))|im h1 h2=>(exact .im h1 (kM h2))|bf=>exact .bf
theorem dJ.vP{I:Nat->Prop}{id:Id}{rows:Ab.Rows}{fp:List Nat}{w':World}(h:dJ w I β id rows fp)(hw:∀(b:Nat)(o:Obj),w.heap[b]? =some o->vQ o=false->w'.heap[b]? =some o):dJ w' I β id rows fp:=by rcases h with h|⟨b,h1,h2,es,c,h3,h4⟩|⟨b,o,sz,n,vs,cF,h1,h2,⟨c,e,h3,vc⟩,h4,h5,h6,h7⟩;·{exact .inl h};·{exact .inr (.inl ⟨b,h1,h2,es,c,hw b _ h3 rfl,h4⟩)};·exact .inr (.inr ⟨b,o,sz,n,vs,cF,h1,h2,⟨c,e,hw b _ h3 rfl,vc⟩,h4,h5,h6.mono (by rw[hw b _ h3 rfl,h3]),h7.vP hw⟩)
theorem aG.A3(h:aG C E w S a β F){l:Nat}{o o':Obj}(hl:w.heap[l]? =some o)(ho:vQ o=true)(hE:E.w0.heap.size<=l){a':Act}(ht:a'.tmps=a.tmps)(hdf:jq (w.putObj l o') (fun b=>aB E w F b∧E.m<=b) E.ds a'.defers):aG C E (w.putObj l o') S a' β F:=by have hlt:=lt_of_heap hl;have hw:∀(b:Nat)(x:Obj),w.heap[b]? =some x->vQ x=false->(w.putObj l o').heap[b]? =some x:=fun b x hb hx=>by{have:b≠l:=fun e=>by{subst e;rw[hl]at hb;cases hb;rw[ho]at hx;cases hx};rw[World.putObj_heap_other this,hb]};have oR:∀b,aB E (w.putObj l o') F b↔aB E w F b:=fun b=>by{unfold aB;rw[World.putObj_size]};have hI:aB E (w.putObj l o') F=aB E w F:=funext fun b=>propext (oR b);refine{n:=by rw[ht];exact h.n,df:=by rw[hI];exact hdf,slot:=fun t=>by rw[hI,ht];exact(h.slot t).vP hw,obj:=fun id rows hr=>by rw[hI];exact(h.obj id rows hr).vP hw,dead:=h.dead,nd:=h.nd,cV:=h.cV,dom:=h.dom,lt:=fun id b hb=>by rw[World.putObj_size];exact h.lt id b hb,kept:= ?_,cu:=fun g cs hg=>by rw[hI];exact(h.cu g cs hg).vP hw,ns:=h.ns,kb:=h.kb};refine⟨by rw[World.putObj_size];exact h.kept.size,fun b hb hf=> ?_,h.kept.os,h.kept.out,fun x hx=> ?_,fun b n hB=> ?_⟩;·{rw[World.putObj_heap_other (by omega)];exact h.kept.blk b hb hf};·{rw[<-h.kept.eI x hx];exact World.frozen?_of_block (World.putObj_heap_other (by omega))};·obtain⟨c,e,h1,h2⟩:=h.kept.nN b n hB;exact⟨c,e,hw b _ h1 rfl,h2⟩
theorem aG.Zb(h:aG C E w S a β F)(o:Obj){a':Act}(ht:a'.tmps=a.tmps)(hdf:jq (w.alloc o) (fun b=>aB E (w.alloc o) F b∧E.m<=b) E.ds a'.defers):aG C E (w.alloc o) S a' β F:=by have hold:∀b,b<w.heap.size->(w.alloc o).heap[b]? =w.heap[b]? :=fun b hb=>RowKit.Below.heap_alloc w o b hb;have h1:=h.Bm (w':=w.alloc o) (S':=S) (a':=a) (β':=β) (F':=F) (fun _=>False) h.n (by simp) rfl rfl (fun x hx=>World.frozen?_of_block (hold _ hx)) (fun b hb _=>hold b hb) (fun _ _ h=>h) (fun id b hb=> .inl ⟨id,hb⟩) (fun _ _=>⟨rfl,rfl⟩) (fun _ _ hf=>hf.elim) (fun _ hf=>hf.elim) (fun _ hf=>hf.elim) (fun _ _ _ hf=>hf.elim) h.dom (fun _ t=> .inl ⟨rfl,rfl⟩) (fH:=uS hold);exact{n:=by rw[ht];exact h1.n,df:=hdf,slot:=fun t=>by rw[ht];exact h1.slot t,obj:=h1.obj,dead:=h1.dead,nd:=h1.nd,cV:=h1.cV,dom:=h1.dom,lt:=h1.lt,kept:=h1.kept,cu:=h1.cu,ns:=h1.ns,kb:=h1.kb}
def Env.at(E:Env)(w:World)(F:Id->List Nat):Env:=⟨w,fun b=>∃id,b∈F id,aB E w F,min E.m w.heap.size,Nat.min_le_right _ _,E.K,E.vA,E.vB,E.ds⟩
theorem Ol{b:Nat}:aB (E.at w F) w F b↔aB E w F b:=by constructor;·{rintro⟨h|⟨id,h⟩|h,h2,h3⟩;·{exact h};·{exact absurd h (h3 id)};·exact absurd h2 (Nat.not_lt.2 h)};·intro h;exact⟨.inl h,h.2⟩
theorem aG.H9(h:aG C E w S a β F):aG C (E.at w F) w S a β F:=by have hI:aB (E.at w F) w F=aB E w F:=funext fun b=>propext Ol;exact{n:=h.n,df:=by rw[hI];exact h.df.mono (fun b hb=>⟨hb.1,Nat.le_trans (Nat.min_le_left _ _) hb.2⟩) (fun _ _=>rfl),slot:=fun t=>by rw[hI];exact h.slot t,obj:=fun id rows hr=>by rw[hI];exact h.obj id rows hr,dead:=h.dead,nd:=h.nd,cV:=h.cV,dom:=h.dom,lt:=fun id b hb=>⟨(h.lt id b hb).1, .inl ⟨id,hb⟩⟩,kept:=Kept.refl _ _,cu:=fun g cs hg=>by rw[hI];exact h.cu g cs hg,ns:=h.ns,kb:=h.kb}
theorem aG.back (h : aG C E w S a β F) {w' : World} {S' : ah} {a' : Act} {β' : Id -> Option Loc} {F' : Id -> List Nat} (h' : aG C (E.at w F) w' S' a' β' F') :
    aG C E w' S' a' β' F' ∧ (∀ b, b < w.heap.size -> (∀ id, b ∉ F id) -> w'.heap[b]? = w.heap[b]? ∧ ∀ id, b ∉ F' id) ∧ ∀ b, aB E w F b -> aB E w' F' b := by
  have hsz := h'.kept.size
  have hI : ∀ b, aB (E.at w F) w' F' b -> aB E w' F' b := fun b ⟨h1, h2, h3⟩ => by
    refine ⟨?_, h2, h3⟩
    rcases h1 with h1 | ⟨id, h1⟩ | h1
    · exact h1.1
    · exact (h.lt id b h1).2.imp (fun h => h) (fun h => h) |>.elim (fun h => .inr (.inl h)) (fun h => .inr (.inr h))
    · exact .inr (.inr (Do h.kept.size h1))
  have hfree : ∀ b, b < w.heap.size -> (∀ id, b ∉ F id) -> w'.heap[b]? = w.heap[b]? ∧ ∀ id, b ∉ F' id := fun b hb hn => by
    refine ⟨h'.kept.blk b hb (fun ⟨id, hm⟩ => hn id hm), fun id hm => ?_⟩
    rcases (h'.lt id b hm).2 with ⟨j, hj⟩ | h2
    · exact hn j hj
    · exact absurd hb (Nat.not_lt.2 h2)
  have hme : min E.m w.heap.size = E.m := Nat.min_eq_left (Do E.le h.kept.size)
  refine ⟨{ n := h'.n, df := h'.df.mono (fun b hb => ⟨hI b hb.1, hme ▸ hb.2⟩) (fun _ _ => rfl), slot := fun t => (h'.slot t).mono hI (fun _ _ => rfl) (fun _ _ h => h), obj := fun id rows hr => (h'.obj id rows hr).mono hI (fun _ _ => rfl) (fun _ _ h => h), dead := h'.dead, nd := h'.nd, cV := h'.cV, dom := h'.dom, lt := fun id b hb => ⟨(h'.lt id b hb).1, ?_⟩, kept := ?_, cu := fun g cs hg => (h'.cu g cs hg).mono hI (fun _ _ => rfl) (fun _ _ h => h), ns := h'.ns, kb := h'.kb }, hfree, fun b hb => ⟨hb.1, GE hb.2.1 hsz, (hfree b hb.2.1 hb.2.2).2⟩⟩
  · rcases (h'.lt id b hb).2 with ⟨j, hj⟩ | h2
    · exact (h.lt j b hj).2
    · exact .inr (Do h.kept.size h2)
  · refine ⟨Do h.kept.size hsz, fun b hb hf => ?_, h'.kept.os.trans h.kept.os, h'.kept.out.trans h.kept.out, fun x hx => (h'.kept.eI x (GE hx h.kept.size)).trans (h.kept.eI x hx), fun b n hB => h'.kept.nN b n (h.kept.nN b n hB)⟩
    rw [(hfree b (GE hb h.kept.size) fun id hm => ?_).1]
    · exact h.kept.blk b hb hf
    · rcases (h.lt id b hm).2 with h2 | h2
      · exact hf h2
      · exact absurd hb (Nat.not_lt.2 h2)
theorem aG.M4(h:aG C E w S a β F){S':ah}{a':Act}(ds:List Deferred)(hn:a'.tmps.size=S'.n)(hh:S'.h=S.h)(hdf:jq w (fun b=>aB E w F b∧E.m<=b) ds a'.defers)(hs:∀t,R w (aB E w F) β [] (a'.tmps.getD t undef) (S'.t t))(tJ:S'.n=S.n:=by rfl):aG C {E with ds:=ds} w S' a' β F:={n:=hn,df:=hdf,slot:=hs,obj:=fun id rows hr=>h.obj id rows (by rw[<-hh];exact hr),dead:=fun id hd=>h.dead id (fun rows=>by rw[<-hh];exact hd rows),nd:=h.nd,cV:=h.cV,dom:=fun id hi=>h.dom id (by rw[<-hh];exact hi),lt:=h.lt,kept:=h.kept,cu:=h.cu,ns:=fun t ht=>h.ns t (tJ▸ht),kb:=fun k rows hk hr=>h.kb k rows hk (by rw[<-hh];exact hr)}
theorem aG.re(h:aG C E w S a β F){S':ah}{a':Act}(hn:a'.tmps.size=S'.n)(hh:S'.h=S.h)(hdf:jq w (fun b=>aB E w F b∧E.m<=b) E.ds a'.defers)(hs:∀t,R w (aB E w F) β [] (a'.tmps.getD t undef) (S'.t t))(tJ:S'.n=S.n:=by rfl):aG C E w S' a' β F:=h.M4 E.ds hn hh hdf hs tJ
end
end Go.Ab
