import Derived.Test.YtbbhbdlljfffdaaGreatDoorAbV14
import Derived.Test.YtbbhbdlljfffdaaGreatDoorAbClone
open Array renaming replicate->Hb,getElem?_eq_none->Hk,getElem?_eq_getElem->Hm
open List renaming range->AC,nodup_nil->Ha,length_cons->Hc,range'_succ->Hd,getElem?_eq_none->H0
open Nat renaming lt_or_ge->Do,blt->GE
open Option renaming bind_eq_some_iff->GT,map_some->Hn,bind_some->H2
open Option.some renaming injEq->H1,inj->H3
set_option linter.all false
namespace Go.Ab
open Go
abbrev zi:=Nat->(Nat->Prop)->World->Prop
def zh(J:zi):Prop:=∀i X Y W W',J i X W->Kept W W' (fun _=>False)->(∀b,Y b->(X b∨W.heap.size<=b)∧b<W'.heap.size)->J i Y W'
def E3(J c5:zi):Option Nat->(Nat->Prop)->World->Prop|some i,X,W=>J i X W|none,X,W=>∃i,c5 i X W
def nX(C:aF)(J c5:zi)(z:Option Nat)(S:ah)(a:Act)(W:World):Prop:=a.defers=[]∧∃E β F,aG C E W S a β F∧(∀b,¬E.eZ b)∧(∀id,S.h id=none)∧E3 J c5 z (aB E W F) W
/-! ### Operations that defer nothing -/
def Ed:Op->Bool| .move _| .assign _| .load _ _| .fieldAddr _ _ _| .indexAddr _ _ _| .binOp _ _ _ _ _| .unOp _ _ _| .field _ _ _| .extract _ _| .box _ _| .alloc _| .build _ _=>true| .call c=>(match c.callee with| .builtin .len=>true|_=>false)|_=>false
theorem U6{P:Program}{w w':World}{s:Sem Value}{d:Deferred}:(do pure (Next.value (<-s)):Sem Next).run P w≠ .ok (.defer d) w':=by intro h;rw[Sem.run_bind]at h;cases hs:s.run P w with|ok v w1=>(rw[hs]at h;simp at h)|halt x w1=>rw[hs]at h;cases h
theorem ajP{P:Program}{ρ:Operand->Value}{o:Oper}{w w':World}{d:Deferred}(hp:Ed o.op=true):(execOp ρ o).run P w≠ .ok (.defer d) w':=by
 unfold Ed at hp
 split at hp
 all_goals try(rename_i ho;unfold execOp;rw[ho];exact U6)
 ·rename_i ho;unfold execOp;rw[ho];intro h;cases h
 ·rename_i ho;unfold execOp;rw[ho];intro h;cases h
 ·rename_i c ho
  split at hp
  ·rename_i hc
   have e:execOp ρ o=builtin .len c.argTypes o.type (c.args.map fun| .const _=>true|_=>false) (c.args.map ρ):=by
    unfold execOp;rw[ho];simp only[resolve,hc];rfl
   rw[e]
   exact U6
  ·cases hp
 ·cases hp
theorem ajO{o:Oper}(hp:Ed o.op=true)(c:Call):o.op≠ .defer c:=fun e=>by rw[e]at hp;cases hp
section
variable{C:aF}{f:FuncId}{call:fZ}{J c5:zi}{z:Option Nat}{S:ah}{a:Act}{W w:World}
theorem amb{P:Program}{o:Oper}{next next':Act->World->Prop}{Q:Exit->Act->World->Prop}(hp:Ed o.op=true)(h:o.wp P a w next Q)(hn:∀w' v,next (a.put o.dst v) w'->next' (a.put o.dst v) w'):o.wpIn Fence.wide 0 P a w next' Q:=by refine⟨fun f _=>EZ none f, ?_⟩;rw[Oper.semAt_eq _ _ _ (ajO hp)];unfold Oper.wp at h;have hnd:∀d w',(execOp a.eval o).run P w≠ .ok (.defer d) w':=fun d w'=>ajP hp;generalize(execOp a.eval o).run P w=r at*;cases r with|ok x w'=>(cases x with|value v=>(exact hn _ v h)|skip=>(exact hn _ undef h)|defer d=>(exact absurd rfl (hnd d w'))|enter f args=>(exact⟨zf none,PB (ro:=none) (h.mono fun e w'' he=>by cases e<;>first|exact hn _ _ he|exact he)⟩)|row row args=>(exact⟨zf none,US (ro:=none) (h.mono fun v w'' he=>hn _ _ he)⟩)|round l f tmps assign body=>(exact h.elim)|_=>exact h)|halt x w'=>cases x<;>exact h
theorem nX.start(ob:zh J)(CV:zh c5)(h:nX C J c5 z S a W):a.defers=[]∧∃E β F,aG C E W S a β F∧E.w0=W∧(∀b,¬E.eZ b)∧(∀id,F id=[])∧(∀id,S.h id=none)∧E3 J c5 z (aB E W F) W:=by obtain⟨h0,E,β,F,h1,h2,h3,h4⟩:=h;have hF:∀id,F id=[]:=fun id=>h1.dead id (by rw[h3];simp);refine⟨h0,E.at W F,β,F,h1.H9,rfl,fun b hb=> ?_,hF,h3, ?_⟩;·{obtain⟨id,hm⟩:=hb;rw[hF]at hm;cases hm};·have key:∀b,aB (E.at W F) W F b->(aB E W F b∨W.heap.size<=b)∧b<W.heap.size:=fun b hb=>⟨.inl (Ol.1 hb),hb.2.1⟩;cases z with|some i=>(exact ob _ _ _ _ _ h4 (Kept.refl _ _) key)|none=>obtain⟨i,h4⟩:=h4;exact⟨i,CV _ _ _ _ _ h4 (Kept.refl _ _) key⟩
theorem nX.fin{E:Env}{F:Id->List Nat}(ob:zh J)(CV:zh c5)(h0:E.w0=W)(hE:∀b,¬E.eZ b)(hF:∀id,F id=[])(hj:E3 J c5 z (aB E W F) W){S':ah}{a':Act}{w':World}(hS:br C E S' a' w')(hh:∀id,S'.h id=none)(hd:a'.defers=[]):nX C J c5 z S' a' w':=by subst h0;obtain⟨β',F',h'⟩:=hS;have hk:Kept E.w0 w' (fun _=>False):=⟨h'.kept.size,fun b h1 _=>h'.kept.blk b h1 (hE b),h'.kept.os,h'.kept.out,h'.kept.eI,h'.kept.nN⟩;have key:∀b,aB E w' F' b->(aB E E.w0 F b∨E.w0.heap.size<=b)∧b<w'.heap.size:=fun b hb=>⟨by rcases Do b E.w0.heap.size with h|h;·{refine .inl ⟨?_,h,fun id hm=>by rw[hF]at hm;cases hm⟩;rcases hb.1 with h1|h1|h1;·{exact .inl h1};·{exact absurd h1 (hE b)};·omega};·exact .inr h,hb.2.1⟩;refine⟨hd,E,β',F',h',hE,hh, ?_⟩;cases z with|some i=>(exact ob _ _ _ _ _ hj hk key)|none=>obtain⟨i,hj⟩:=hj;exact⟨i,CV _ _ _ _ _ hj hk key⟩
/-! ### The walk -/
structure O4(C:aF)(call:fZ)(l:Nat)(ys:List (List U))(J c5:zi):Prop where
 n:kI C
 calls:∀k as r,call k as=some r->Sound C k as r
 j:zh J
 G7:zh c5
 y:∀i X W vs y,J i X W->ys[i]? =some y->av W X bL [] vs y->YieldAt Fence.wide 0 C.P l ⟨vs⟩ W fun e W'=>((e= .returned (.bool true)∧J (i+1) X W')∨(e= .returned (.bool false)∧c5 (i+1) X W'))∧∀b,X b->W'.heap[b]? =W.heap[b]?
def lN(C:aF)(f:FuncId)(call:fZ)(l:Nat)(ys:List (List U))(c:Code)(z:Option Nat)(S:ah)(Q:Exit->Option Nat->ah->Prop):Prop:=∀J c5,O4 C call l ys J c5->∀a W jN,nX C J c5 z S a W->(∀e z' S' a' W',Q e z' S'->nX C J c5 z' S' a' W'->jN e a' W')->c.wpIn Fence.wide 0 C.P jN a W
def s9(C:aF)(f:FuncId)(call:fZ)(l:Nat)(ys:List (List U))(ops:Array Oper)(i:Nat)(os:List Oper)(z:Option Nat)(S:ah)(Q:Option Nat->ah->Prop):Prop:=(∀j,os[j]? =ops[i+j]?)->∀J c5,O4 C call l ys J c5->∀a W jN,nX C J c5 z S a W->(∀z' S' a' W',Q z' S'->nX C J c5 z' S' a' W'->jN .normal a' W')->wpOpsIn Fence.wide 0 C.P ops jN (List.range' i os.length) a W
end
section
variable{C:aF}{f:FuncId}{call:fZ}{l:Nat}{ys:List (List U)}{z:Option Nat}{S:ah}{Q:Exit->Option Nat->ah->Prop}{c b:Code}{ops:Array Oper}{i n d:Nat}{os:List Oper}{K:Option Nat->ah->Prop}
variable{t:Nat->U}{h:Id->Option (Option Rows)}{op:Op}{ty:TypeId}{pos:String}{aQ:Array Edge}{v:U}
theorem BH(k:K z S):s9 C f call l ys ops i [] z S K:=fun _ J c5 _ a W jN hS hQ=>hQ _ _ _ _ k hS
theorem iD(he:bk C f call ⟨n,t,h⟩ true ⟨some d,op,ty,pos,aQ,none⟩=some ⟨[(d,v)],[],[]⟩)(k:s9 C f call l ys ops (i+1) os z ⟨n,aj t d v,h⟩ K)(hs:GE d n=true:=by exact rfl)(hp:Ed op=true:=by exact rfl):s9 C f call l ys ops i (⟨some d,op,ty,pos,aQ,none⟩::os) z ⟨n,t,h⟩ K:=by intro hl J c5 gx a W jN hS hQ;have h0:ops[i]? =some ⟨some d,op,ty,pos,aQ,none⟩:=by{simpa using(hl 0).symm};obtain⟨g0,E,β,F,g1,g2,g3,g4,g5,g6⟩:=hS.start gx.j gx.G7;rw[Hc,Hd,wpOpsIn_cons];unfold wpOpIn;simp only[h0];have hw:Region.wanted (⟨some d,op,ty,pos,aQ,none⟩:Oper) (yielded ops a.tmps)=true:=rfl;rw[if_pos hw];have hlt:d<n:=of_decide_eq_true (lO hs);refine amb hp (HI (next:=br C E ⟨n,aj t d v,h⟩) gx.n gx.calls g1 he (by simp[cC,hlt]) fun a' w' hx=>hx) fun w' u hx=> ?_;exact k (fun j=>by have:=hl (j+1);simpa[Nat.add_assoc,Nat.add_comm 1 j]using this) J c5 gx _ _ jN (nX.fin (E:=E) (F:=F) gx.j gx.G7 g2 g3 g4 g6 hx g5 (by rw[put_defers];exact g0)) hQ
theorem ams{aI:Operand}{xs:List Operand}{ts:Array TypeId}{k:Nat}{y:List U}(hfo:un true ((⟨n,t,h⟩:ah).get C aI)= .fn (.yield l) [] [])(hy:ys[k]? =some y)(hxs:(xs.map fun x=>un true ((⟨n,t,h⟩:ah).get C x))=y)(hi:dZ y=true)(k1:s9 C f call l ys ops (i+1) os (some (k+1)) ⟨n,aj t d (.val (.bool true)),h⟩ K)(k2:s9 C f call l ys ops (i+1) os none ⟨n,aj t d (.val (.bool false)),h⟩ K)(hs:GE d n=true:=by exact rfl):s9 C f call l ys ops i (⟨some d, .call ⟨.value aI,⟨xs⟩,ts⟩,ty,pos,aQ,none⟩::os) (some k) ⟨n,t,h⟩ K:=by intro hl J c5 gx a W jN hS hQ;have h0:ops[i]? =some ⟨some d, .call ⟨.value aI,⟨xs⟩,ts⟩,ty,pos,aQ,none⟩:=by{simpa using(hl 0).symm};obtain⟨g0,E,β,F,g1,g2,g3,g4,g5,g6⟩:=hS.start gx.j gx.G7;have hlt:d<n:=of_decide_eq_true (lO hs);have l8:=g1.dQ aI;rw[hfo]at l8;obtain⟨_,v1,v2,l8,r1,r2⟩:=l8.p8;obtain⟨_,rfl⟩:=r1.gd;obtain⟨_,rfl⟩:=r2.gd;have hargs:=av.ofMap g1 xs;rw[hxs]at hargs;have aeg:av W (aB E W F) bL [] (xs.map a.eval) y:=av.og hargs hi;obtain⟨fn,tmps,assign,body,hrun,hR⟩:=gx.y k _ W _ y g6 hy aeg;rw[Hc,Hd,wpOpsIn_cons];unfold wpOpIn;simp only[h0];have hw:Region.wanted (⟨some d, .call ⟨.value aI,⟨xs⟩,ts⟩,ty,pos,aQ,none⟩:Oper) (yielded ops a.tmps)=true:=rfl;rw[if_pos hw];refine⟨fun f _=>EZ none f, ?_⟩;rw[Oper.semAt_eq _ _ _ (fun c e=>by cases e)];have hex:(execOp a.eval (⟨some d, .call ⟨.value aI,⟨xs⟩,ts⟩,ty,pos,aQ,none⟩:Oper)).run C.P W= .ok (.round l fn tmps assign body) W:=by{have e1:(⟨xs⟩:Array Operand).map a.eval=⟨xs.map a.eval⟩:=by{apply Array.ext';simp};simp only[execOp,resolve,l8];rw[e1];simpa[invoke,go_sem]using hrun};rw[hex,Oper.uponIn_round];refine⟨zf none,hR.mono ?_⟩;have fin:∀(z':Option Nat)(bb:Bool)(W':World),(E3 J c5 z' (aB E W F) W')->(∀b,aB E W F b->W'.heap[b]? =W.heap[b]?)->s9 C f call l ys ops (i+1) os z' ⟨n,aj t d (.val (.bool bb)),h⟩ K->wpOpsIn Fence.wide 0 C.P ops jN (List.range' (i+1) os.length) (a.put (some d) (.bool bb)) W':=by{intro z' bb W' hj hb kk;have sd:∀b,aB E W F b->b<W'.heap.size:=fun b hb'=>by{have:=hb b hb';rcases Do b W'.heap.size with h1|h1;·{exact h1};·rw[Hk h1,Hm hb'.2.1]at this;cases this};have Aq:∀(id:Id)(b:Nat),b∉F id:=fun id b hm=>by{rw[g4]at hm;cases hm};let E':Env:={w0:=W',eZ:=fun _=>False,cH:=aB E W F,m:=0,le:=Nat.zero_le _};have oR:∀b,aB E W F b->aB E' W' F b:=fun b hb'=>⟨.inl hb',sd b hb',fun id=>Aq id b⟩;refine kk (fun j=>by have:=hl (j+1);simpa[Nat.add_assoc,Nat.add_comm 1 j]using this) J c5 gx _ _ jN ⟨by rw[put_defers];exact g0,E',β,F, ?_,fun _ h=>h,g5, ?_⟩ hQ;·{refine{n:=(by rw[uv];exact g1.n),df:=(by rw[put_defers,g0];exact jq.nil (d0:=[])),slot:=fun t'=> ?_,obj:=fun id rows hr=>(by rw[g5]at hr;cases hr),dead:=fun id _=>g4 id,nd:=fun id=>(by rw[g4];exact Ha),cV:=fun i j b hm=>absurd hm (Aq i b),dom:=g1.dom,lt:=fun id b hm=>absurd hm (Aq id b),kept:=Kept.refl _ _,cu:=fun g cs hg=>(g1.cu g cs hg).mono oR (fun b hb'=>hb b (by rcases hb' with h1|h1<;>first|exact h1|cases h1)) (fun _ _ h=>h),ns:=fun _ _ _ h=>h,kb:=fun _ _ h=>h.elim};rw[uu a d t' _ (by rw[g1.n];exact hlt)];by_cases e:t'=d;·{subst e;simp only[if_true,aj];exact .val rfl};·simp only[if_neg e,aj];exact(g1.slot t').mono oR (fun b hb'=>hb b (by rcases hb' with h1|h1<;>first|exact h1|cases h1)) (fun _ _ h=>h)};·have key:∀b,aB E' W' F b->(aB E W F b∨W'.heap.size<=b)∧b<W'.heap.size:=fun b hb'=>⟨by rcases hb'.1 with h1|h1|h1;·{exact .inl h1};·{exact h1.elim};·exact .inr h1,hb'.2.1⟩;cases z' with|some i=>(exact gx.j _ _ _ _ _ hj (Kept.refl _ _) key)|none=>obtain⟨i,hj⟩:=hj;exact⟨i,gx.G7 _ _ _ _ _ hj (Kept.refl _ _) key⟩};rintro e W'⟨⟨rfl,hj⟩|⟨rfl,hj⟩,hb⟩;·{exact fin (some (k+1)) true W' hj hb k1};·exact fin none false W' ⟨_,hj⟩ hb k2
theorem VY{id:Nat}(k:s9 C f call l ys ⟨os⟩ 0 os z S fun z' S'=>Q .normal z' S'):lN C f call l ys (.region id ⟨os⟩ false) z S Q:=fun J c5 gx a W jN hS hQ=>by refine wpIn_region ?_;have:=k (fun j=>by simp) J c5 gx a W jN hS (fun z' S' a' W' hq=>hQ _ _ _ _ _ hq);simpa[List.range_eq_range']using this
theorem IE{a:Code}(k:lN C f call l ys a z S fun e z' S'=>match e with| .normal=>lN C f call l ys b z' S' Q|e=>Q e z' S'):lN C f call l ys (.seq a b) z S Q:=fun J c5 gx ac W jN hS hQ=>by refine wpIn_seq (k J c5 gx ac W _ hS fun e z' S' a' W' hq l5=> ?_);cases e with|normal=>(exact hq J c5 gx _ _ _ l5 hQ)|_=>exact hQ _ _ _ _ _ hq l5
theorem IF{id:Nat}(k:s9 C f call l ys ⟨os⟩ 0 os z S fun z' S'=>lN C f call l ys b z' S' Q):lN C f call l ys (.seq (.region id ⟨os⟩ false) b) z S Q:=IE (VY k)
theorem VZ(k:Q .normal z S):lN C f call l ys .skip z S Q:=fun J c5 gx a W jN hS hQ=>wpIn_skip (hQ _ _ _ _ _ k hS)
theorem amq(k:Q .ret z S):lN C f call l ys .ret z S Q:=fun J c5 gx a W jN hS hQ=>wpIn_ret (hQ _ _ _ _ _ k hS)
theorem amo{j:Nat}(k:Q (.exit j) z S):lN C f call l ys (.exit j) z S Q:=fun J c5 gx a W jN hS hQ=>wpIn_exit (hQ _ _ _ _ _ k hS)
theorem ID{x:Operand}{bb:Bool}{c1 c2:Code}(hx:un true (S.get C x)= .val (.bool bb))(k:lN C f call l ys (if bb then c1 else c2) z S Q):lN C f call l ys (.cond x c1 c2) z S Q:=fun J c5 gx a W jN hS hQ=>by have hv:a.eval x= .bool bb:=by{obtain⟨_,E,β,F,g1,_⟩:=hS;have:=g1.dQ x;rw[hx]at this;exact this.gB.2};exact wpIn_cond hv (by have:=k J c5 gx a W jN hS hQ;cases bb<;>exact this)
theorem VX{j:Nat}(k:lN C f call l ys c z S fun e z' S'=>Q (match e with| .exit i=>if i=j then .normal else .exit i|e=>e) z' S'):lN C f call l ys (.block j c) z S Q:=fun J c5 gx a W jN hS hQ=>by refine wpIn_block (k J c5 gx a W _ hS fun e z' S' a' W' hq l5=> ?_);cases e with|exit i=>(simp only[Exit.inBlock];simp only at hq;split at hq;·{rename_i e;subst e;simpa using hQ _ _ _ _ _ hq l5};·rename_i e;simpa[e]using hQ _ _ _ _ _ hq l5)|_=>exact hQ _ _ _ _ _ hq l5
end
theorem agj{C:aF}{k:FuncId}{fn:Func}{c:Code}{call:fZ}{it:List U->Option (List (List U))}(hN:kI C)(dU:∀k as r,call k as=some r->Sound C k as r)(hf:C.P.funcs[k]? =some fn)(hb:fn.body=some c)(hres:fn.results= #[])(hnt:∀caps ys,it caps=some ys->1+caps.length<=fn.ntmps)
  (hh:∀l caps ys,it caps=some ys->∀id,(aH fn.ntmps (AC (1+caps.length)) (.fn (.yield l) [] []::caps)).h id=none)
  (hw:∀l caps ys,it caps=some ys->lN C k call l ys c (some 0) (aH fn.ntmps (AC (1+caps.length)) (.fn (.yield l) [] []::caps)) fun e z _=>(e= .normal∨e= .ret)∧(z=some ys.length∨z=none)):qI C k it:=by
 refine⟨⟨fn,c,hf,hb⟩,fun caps ys hit w0 I cs hcs hI xJ l J c5 W hW ob CV hy h0=> ?_⟩
 refine callsIn_of_wp hf hb trivial ?_
 have hvl:=hcs.length
 let vs:List Value:= .func (.yield l) #[] #[]::cs
 let args:List U:= .fn (.yield l) [] []::caps
 have Dp:vs.length=args.length:=by simp[vs,args,hvl]
 have aol:=hnt caps ys hit
 have aeq:av W I bL [] cs caps:=hcs.mono (fun _ h=>h) (fun b hb=>hW b (by rcases hb with h|h<;>first|exact h|cases h)) (fun _ _ h=>h)
 have hargs:av W I bL [] vs args:=R.cons (f1:=[]) (f2:=[]) (.fn .nil .nil) aeq
 have adN:∀b,I b->b<W.heap.size:=fun b hb=>by
  have :=hW b hb
  rcases Do b W.heap.size with h1|h1
  ·exact h1
  ·rw[Hk h1,Hm (hI b hb)]at this;cases this
 have sj:(AC args.length).map ((⟨vs⟩++Hb (fn.ntmps-(⟨vs⟩:Array Value).size) undef:Array Value).getD · undef)=vs:=by
  apply List.ext_getElem?
  intro k
  rw[List.getElem?_map]
  rcases Do k args.length with hk|hk
  ·rw[List.getElem?_range hk]
   simp only[Hn]
   rw[Array.getD_eq_getD_getElem?,Array.getElem?_append_left (by simpa[Dp]using hk)]
   have :k<vs.length:=by omega
   simp[this]
  ·rw[H0 (by simpa using hk),H0 (by omega)]
   rfl
 let E:Env:={w0:=W,eZ:=fun _=>False,cH:=I,m:=W.heap.size,le:=Nat.le_refl _}
 have Aj:br C E (aH fn.ntmps (AC args.length) args) {tmps:=⟨vs⟩++Hb (fn.ntmps-(⟨vs⟩:Array Value).size) undef,defers:=[]} W:=by
  refine aG.enter (I:=I) (f:=[]) ?_ (jq.nil (d0:=[])) ?_ List.nodup_range Ha (fun b hb=>⟨.inl hb,adN b hb,by simp⟩) (fun b hb=>by cases hb) (Kept.refl W _) (fun g cs hg=> ?_) (fun _ _ _ h=>h) (fun _ _ _ h=>h)
  ·have :args.length=1+caps.length:=by simp[args];omega
   simp[Dp];omega
  ·rw[sj];exact hargs
  ·exact(xJ g cs hg).mono (fun _ h=>h) (fun b hb=>hW b (by rcases hb with h|h<;>first|exact h|cases h)) (fun _ _ h=>h)
 have hlen:args.length=1+caps.length:=by simp[args];omega
 obtain⟨β,F,hS⟩:=Aj
 have RR:∀id,(aH fn.ntmps (AC args.length) args).h id=none:=by rw[hlen];exact hh l caps ys hit
 have hF:∀id,F id=[]:=fun id=>hS.dead id (by rw[RR];simp)
 have aec:nX C J c5 (some 0) (aH fn.ntmps (AC (1+caps.length)) args) {tmps:=⟨vs⟩++Hb (fn.ntmps-(⟨vs⟩:Array Value).size) undef,defers:=[]} W:=by
  rw[<-hlen]
  refine⟨rfl,E,β,F,hS,fun _ h=>h,RR, ?_⟩
  exact ob _ _ _ _ _ h0 (Kept.refl _ _) fun b hb=>⟨by
   rcases hb.1 with h1|h1|h1
   ·exact .inl h1
   ·exact h1.elim
   ·exact .inr h1,hb.2.1⟩
 refine hw l caps ys hit J c5 ⟨hN,dU,ob,CV,hy⟩ _ _ _ aec ?_
 rintro e z S' a' W'⟨he,hz⟩⟨hd,E',β',F',_,_,_,hj⟩
 have hq:(∃X,J ys.length X W')∨∃i X,c5 i X W':=by
  rcases hz with rfl|rfl
  ·exact .inl ⟨_,hj⟩
  ·obtain⟨i,hj⟩:=hj;exact .inr ⟨i,_,hj⟩
 have hr:∃v,(results fn a'.tmps).run C.P W'= .ok v W':=⟨.tuple #[],by simp[results,hres]⟩
 obtain⟨v,hr⟩:=hr
 rcases he with rfl|rfl
 ·exact⟨hd,v,hr,⟨v,rfl⟩,hq⟩
 ·exact⟨hd,v,hr,⟨v,rfl⟩,hq⟩
open Go
/-! ### What it yields -/
def gV{α:Type}(nodes:List α):Nat->List Int->Option (List (Int×α))|_,[]=>some []|j,x::l=>(idx nodes x).bind fun n=>(gV nodes (j+1) l).bind fun r=>some (((j:Int),n)::r)
def jg{α:Type}(kids:α->List Int)(nodes:List α)(k:Int):Option (List (Int×α)):=(idx nodes k).bind fun n=>if(kids n).length<=4294967296 then gV nodes 0 (kids n)else none
def q9{α:Type}(c:α->List U)(y:Int×α):List U:=[.val (.int .i64 y.1), .agg (c y.2)]
def uV(n:Int):List U:=[.val (.int .i64 n)]
def x9:Rows->Option (List Int)|[]=>some []|[.val (.int .i64 x)]::l=>(x9 l).map (x::·)|_=>none
theorem Su:∀{ks:Rows}{l:List Int},x9 ks=some l->ks=l.map uV|[],l,h=>by{simp[x9]at h;subst h;rfl}|r::ks,l,h=>by unfold x9 at h;split at h;·{rename_i e;cases e};·{rename_i x l' e;cases e;obtain⟨l2,h1,rfl⟩:=Option.map_eq_some_iff.1 h;rw[Su h1];rfl};·cases h
theorem St:∀l:List Int,x9 (l.map uV)=some l|[]=>rfl|x::l=>by simp[uV,x9];exact St l
def LV(off:Nat)(r:List U):Option (List Int):=match r.drop off with| .sl ks::_=>x9 ks|_=>none
def uc(m off:Nat):List U->Option (List (List U))|[.ay [.sl rows], .ay [.val (.int .i64 k)]]=>if(rows.all fun r=>decide (r.length=m)&&r.all U.cell&&dZ r&&cN r)=true then(idx rows k).bind fun r=>(LV off r).bind fun l=>if l.length<=4294967296 then(gV rows 0 l).map (·.map (q9 id))else none else none|_=>none
theorem SE{α:Type}{c:α->List U}{nodes:List α}:∀{l:List Int}{j:Nat}{ys:List (Int×α)},gV nodes j l=some ys->gV (nodes.map c) j l=some (ys.map fun y=>(y.1,c y.2))|[],j,ys,h=>by{simp[gV]at h;subst h;rfl}|x::l,j,ys,h=>by simp only[gV,GT,H1]at h;obtain⟨n,h1,r,h2,rfl⟩:=h;simp[gV,Dx h1,SE h2]
theorem agv{α:Type}{c:α->List U}{kids:α->List Int}{rest:α->List U}{nodes:List α}{k:Int}{ys:List (Int×α)}{m off:Nat}[hi:qH c][hf:iU c](h:jg kids nodes k=some ys)(hl:∀x,(c x).length=m:=by exact fun _=>rfl)(hc:∀x,(c x).drop off= .sl ((kids x).map uV)::rest x:=by exact fun _=>rfl):uc m off [.ay [.sl (nodes.map c)], .ay [.val (.int .i64 k)]]=some (ys.map (q9 c)):=by unfold jg at h;simp only[GT]at h;obtain⟨n,h1,h2⟩:=h;split at h2;(case isFalse=>cases h2);rename_i hlen;show(if _ then _ else _)=_;rw[if_pos (by simp only[List.all_map,List.all_eq_true,Function.comp,Bool.and_eq_true,decide_eq_true_eq];intro x _;exact⟨⟨⟨hl x,fun y hy=>List.all_eq_true.1 (hi.ce x) y hy⟩,hi.im x⟩,hf.fl x⟩),Dx h1,H2];simp only[LV,hc,St,H2,SE h2,Hn,List.map_map,if_pos hlen];rfl
theorem He{C:aF}{k:FuncId}{α:Type}{c:α->List U}{kids:α->List Int}{rest:α->List U}{nodes:List α}{k0:Int}{ys:List (Int×α)}{m off:Nat}[hi:qH c][hf:iU c](hk:C.iter k=some (uc m off))(h:jg kids nodes k0=some ys)(hl:∀x,(c x).length=m:=by exact fun _=>rfl)(hc:∀x,(c x).drop off= .sl ((kids x).map uV)::rest x:=by exact fun _=>rfl):
  A5 C (.fn (.func k) [] [.ay [.sl (nodes.map c)], .ay [.val (.int .i64 k0)]])=some (ys.map (q9 c)):=by
 show(if dZ [.ay [.sl (nodes.map c)], .ay [.val (.int .i64 k0)]]=true then(C.iter k).bind (· [.ay [.sl (nodes.map c)], .ay [.val (.int .i64 k0)]])else none)=_
 rw[if_pos (by simp[dZ,fA]),hk]
 exact agv h hl hc
/-! ### The iterator keeps its word -/
theorem om{α:Type}{nodes:List α}:∀{l:List Int}{j:Nat}{ys:List (Int×α)},gV nodes j l=some ys->ys.length=l.length∧∀(i:Nat)(x:Int),l[i]? =some x->∃n,idx nodes x=some n∧ys[i]? =some (((j+i:Nat):Int),n)|[],j,ys,h=>by{simp[gV]at h;subst h;exact⟨rfl,fun i x h=>by simp at h⟩}|x::l,j,ys,h=>by simp only[gV,GT,H1]at h;obtain⟨n,h1,r,h2,rfl⟩:=h;obtain⟨g1,g2⟩:=om h2;refine⟨by simp[g1],fun i x' hx=> ?_⟩;cases i with|zero=>(simp at hx;subst hx;exact⟨n,h1,by simp⟩)|succ i=>obtain⟨n',k1,k2⟩:=g2 i x' (by simpa using hx);exact⟨n',k1,by rw[List.getElem?_cons_succ,k2];congr 3;omega⟩
def zy(g f:Nat->U):Prop:=∀t,f t=g t∨f t= .bf
theorem VM{g:Nat->U}:zy g (fun _=> .bf):=fun _=> .inr rfl
theorem qD{g f:Nat->U}{s:Nat}{v:U}(h:zy g f)(hs:g s=v:=by exact rfl):zy g (aj f s v):=fun t=>by by_cases e:t=s;·{subst e;left;simp[aj,hs]};·simpa[aj,e]using h t
theorem nX.weak{C:aF}{J c5:zi}{z:Option Nat}{a:Act}{W:World}{n:Nat}{t t':Nat->U}{h:Id->Option (Option Rows)}(hw:zy t t')(hS:nX C J c5 z ⟨n,t,h⟩ a W):nX C J c5 z ⟨n,t',h⟩ a W:=by obtain⟨h0,E,β,F,h1,h2,h3,h4⟩:=hS;refine⟨h0,E,β,F,{n:=h1.n,df:=h1.df,slot:=fun u=> ?_,obj:=h1.obj,dead:=h1.dead,nd:=h1.nd,cV:=h1.cV,dom:=h1.dom,lt:=h1.lt,kept:=h1.kept,cu:=h1.cu,ns:=h1.ns,kb:=h1.kb},h2,h3,h4⟩;rcases hw u with e|e;·{simp only[e];exact h1.slot u};·simp only[e];exact .bf
section
variable{C:aF}{f:FuncId}{call:fZ}{l:Nat}{ys:List (List U)}{z:Option Nat}{Q:Exit->Option Nat->ah->Prop}{c:Code}{n:Nat}{t:Nat->U}{h:Id->Option (Option Rows)}
theorem amn(L:Nat)(rep:Nat->Nat->U)(h0:zy t (rep 0))(round:∀j,j<=L->lN C f call l ys c (some j) ⟨n,rep j,h⟩ fun e z' S'=>match e with| .normal=>j<L∧z'=some (j+1)∧S'.n=n∧S'.h=h∧zy S'.t (rep (j+1))|e=>Q e z' S'):lN C f call l ys (.loop c) (some 0) ⟨n,t,h⟩ Q:=by intro J c5 gx a W jN hS hQ;refine N9 (fun m a W=>∃j,j+m=L∧nX C J c5 (some j) ⟨n,rep j,h⟩ a W) L ⟨0,by omega,hS.weak h0⟩ ?_;rintro m a W⟨j,hj,hS⟩;refine round j (by omega) J c5 gx a W _ hS fun e z' S' a' W' hq l5=> ?_;cases e with|normal=>(obtain⟨h1,rfl,h2,h3,h4⟩:=hq;obtain⟨n',t',h'⟩:=S';simp only at h2 h3 h4;subst h2 h3;exact⟨m-1,by omega,j+1,by omega,l5.weak h4⟩)|_=>exact hQ _ _ _ _ _ hq l5
end
section
variable{C:aF}{k:FuncId}{fn:Func}{I1 zq s4 zn BQ XU:TypeId}{m off c9:Nat}{y0 y1 bu bV dO dX bD cB bE eG dy ep gP uD EO gm iC e8 iQ rH uE iR amk aml amm:TypeId}{qx p1 p2 p3 nJ sD HN HO ajn ajo ai8 ai9 aja ajb ajc ajd aje ajf ajg ajh aji ajj ajk ajl ajm:String}{f0 f1 f2 f3 f4 f5 f6 f7 f8 f9 f10 f11 f12 f13 f14 f15 f16 f17 f18 f19 f20 f21 f22 f23 f24:Array Edge}
set_option maxHeartbeats 2000000 in theorem agA [Fd C I1 0 0 1 false][cI C zq false 1][cY C zq (.slice zn)][cI C zn true m][Fd C zn c9 off 1 false][cI C BQ false 1][cY C BQ (.slice s4)][cI C s4 false 1](hm0:GE off m=true)(hN:kI C)(hf:C.P.funcs[k]? =some fn)(hn:fn.ntmps=28)(hres:fn.results= #[])(hfz:∀t,(C.eI k).contains t=false)(hb:fn.body=some (.seq (.region 0 ⟨[⟨some 6, .fieldAddr I1 (.tmp 1) 0,y0,qx,f0,none⟩,⟨some 7, .load zq (.tmp 6),y1,p1,f1,none⟩,⟨some 8, .load s4 (.tmp 2),bu,p2,f2,none⟩,⟨some 9, .indexAddr zq (.tmp 7) (.tmp 8),bV,p3,f3,none⟩,⟨some 10, .fieldAddr zn (.tmp 9) c9,dO,nJ,f4,none⟩,⟨some 11, .load BQ (.tmp 10),dX,sD,f5,none⟩,⟨some 12, .call ⟨.builtin .len,⟨[.tmp 11]⟩,⟨[BQ]⟩⟩,bD,HN,f6,none⟩,⟨some 13, .move (.const (.int .i64 0)),cB,HO,f7,none⟩]⟩ false) (.block 0 (.loop (.seq (.region 1 ⟨[⟨some 14, .binOp .lss s4 (.tmp 13) (.tmp 12) s4,bE,ajn,f8,none⟩]⟩ false) (.seq (.cond (.tmp 14) .skip (.exit 0)) (.seq (.block 1 (.seq (.region 2 ⟨[⟨some 15, .move (.tmp 13),eG,ajo,f9,none⟩,⟨some 16, .indexAddr BQ (.tmp 11) (.tmp 13),dy,ai8,f10,none⟩,⟨some 17, .load s4 (.tmp 16),ep,ai9,f11,none⟩,⟨some 4, .assign (.tmp 15),gP,aja,f12,none⟩,⟨some 5, .assign (.tmp 17),uD,ajb,f13,none⟩]⟩ false) (.seq (.region 3 ⟨[⟨some 18, .move (.tmp 0),EO,ajc,f14,none⟩,⟨some 19, .move (.tmp 4),gm,ajd,f15,none⟩,⟨some 20, .fieldAddr I1 (.tmp 1) 0,iC,aje,f16,none⟩,⟨some 21, .load zq (.tmp 20),e8,ajf,f17,none⟩,⟨some 22, .move (.tmp 5),iQ,ajg,f18,none⟩,⟨some 23, .indexAddr zq (.tmp 21) (.tmp 22),rH,ajh,f19,none⟩,⟨some 24, .load zn (.tmp 23),uE,aji,f20,none⟩,⟨some 25, .call ⟨.value (.tmp 18),⟨[.tmp 19, .tmp 24]⟩,⟨[s4,zn]⟩⟩,iR,ajj,f21,none⟩,⟨some 26, .unOp .not XU (.tmp 25),amk,ajk,f22,none⟩]⟩ false) (.cond (.tmp 26) .ret .skip)))) (.region 4 ⟨[⟨some 27, .binOp .add s4 (.tmp 13) (.const (.int .i64 1)) s4,aml,ajl,f23,none⟩,⟨some 13, .move (.tmp 27),amm,ajm,f24,none⟩]⟩ false)))))))):qI C k (uc m off):=by have hm:off<m:=of_decide_eq_true (lO hm0);refine agj (call:=fun _ _=>none) hN (fun _ _ _ h=>by cases h) hf hb hres ?_ ?_ ?_;·{intro caps ys h;unfold uc at h;split at h;·{simp[hn]};·cases h};·{intro l caps ys h id;unfold uc at h;split at h;·{rfl};·cases h};intro l caps ys h;rw[hn];unfold uc at h;split at h;(case h_2=>cases h);rename_i rows k0;split at h;(case isFalse=>cases h);rename_i hall;obtain⟨q,rfl⟩:∃q:List (eT m),rows=q.map eT.v:=by{refine⟨rows.attachWith _ (fun r hr=>List.all_eq_true.1 hall r hr), ?_⟩;exact(List.attachWith_map_subtype_val _).symm};clear hall;simp only[GT]at h;obtain⟨aj6,h1,ks,h2,h3⟩:=h;split at h3;(case isFalse=>cases h3);rename_i hbd;obtain⟨Oc,h4,rfl⟩:=Option.map_eq_some_iff.1 h3;obtain⟨eR,vr,rfl⟩:∃eR,idx q k0=some eR∧aj6=eR.v:=by{have hb:=AB h1;obtain⟨eR,hr⟩:∃eR,q[k0.toNat]? =some eR:=⟨_,List.getElem?_eq_getElem (by simp at hb;omega)⟩;have:idx q k0=some eR:=by{unfold idx;rw[if_pos hb.1,hr]};refine⟨eR,this, ?_⟩;rw[Dx this]at h1;exact(Option.some.inj h1).symm};obtain⟨rs,aeu⟩:∃rs,eR.v.drop off= .sl (ks.map uV)::rs:=by{unfold LV at h2;split at h2;·{rename_i ks' rs e;rw[Su h2]at e;exact⟨rs,e⟩};·cases h2};have hlen:∀r:eT m,r.v.length=m:=fun r=>(zN r).1;have hle:∀r:eT m,Nat.ble off r.v.length=true:=fun r=>Nat.ble_eq_true_of_le (by rw[hlen];omega);have vp:GE 0 m=true:=by{simp[GE];omega};obtain⟨Gm,gg⟩:=om h4;have Lx:(Oc.map (q9 id)).length=ks.length:=by{simp[Gm]};rw[Lx];let st:Nat->Nat->U:=fun j=>aj (aj (aj (aj (aj (aj (fun _=> .bf) 0 (.fn (.yield l) [] [])) 1 (.ay [.sl (q.map eT.v)])) 2 (.ay [.val (.int .i64 k0)])) 11 (.sl (ks.map uV))) 12 (.val (.int .i64 ks.length))) 13 (.val (.int .i64 (j:Int)));show lN C k (fun _ _=>none) l (Oc.map (q9 id)) _ (some 0) ⟨28,aj (aj (aj (fun _=> .bf) 2 (.ay [.val (.int .i64 k0)])) 1 (.ay [.sl (q.map eT.v)])) 0 (.fn (.yield l) [] []),fun _=>none⟩ _;refine IF<|iD (aD (C:=C) (hz:=hfz _))<|iD aq<|iD aq<|iD (cy vr (h0:=vp) (hr:=hlen _))<|iD (aD (hl:=hle _) (hz:=hfz _))<|iD (aq (hv:=aeu))<|iD dN<|iD aa<|BH<|VX<|amn ks.length st ?_ ?_;·{exact qD (qD (qD (qD (qD (qD VM)))))};intro j hj;refine IF<|iD (e4 (a:=(j:Int)) (b:=(ks.length:Int)))<|BH ?_;rcases Do j ks.length with hlt|hge;·{have hd:decide ((j:Int)<(ks.length:Int))=true:=by{simp;omega};obtain⟨x,hx⟩:∃x,ks[j]? =some x:=⟨_,List.getElem?_eq_getElem hlt⟩;have aeS:idx ks (j:Int)=some x:=by{unfold idx;rw[if_pos (by omega)];simpa using hx};obtain⟨nd,hnd,hy⟩:=gg j x hx;obtain⟨nd,oZ,rfl⟩:∃r,idx q x=some r∧nd=r.v:=by{have hb:=AB hnd;obtain⟨r,hr⟩:∃r,q[x.toNat]? =some r:=⟨_,List.getElem?_eq_getElem (by simp at hb;omega)⟩;have:idx q x=some r:=by{unfold idx;rw[if_pos hb.1,hr]};refine⟨r,this, ?_⟩;rw[Dx this]at hnd;exact(Option.some.inj hnd).symm};have afS:(Oc.map (q9 id))[j]? =some [.val (.int .i64 (j:Int)), .agg nd.v]:=by{rw[List.getElem?_map,hy];simp[q9]};have htk:nd.v.take m=nd.v:=List.take_of_length_le (by rw[hlen];omega);refine IE (ID (bb:=true) (by rw[<-hd];rfl) (VZ ?_));refine IE (VX ?_);refine IF<|iD aa<|iD (cy (c:=uV) aeS)<|iD aq<|iD af<|iD af<|BH ?_;refine IF<|iD (aa (v:= .fn (.yield l) [] []) (h:=rfl))<|iD aa<|iD (aD (hz:=hfz _))<|iD aq<|iD aa<|iD (cy oZ (h0:=vp) (hr:=hlen _))<|iD (cK (hl:=Nat.ble_eq_true_of_le (by rw[hlen];omega)) (hv:=htk))<|ams rfl afS rfl ?_ ?_ ?_;·{have:=(zN nd).2.2.1;simp[dZ,fA,this]};·{refine iD gX<|BH<|ID (bb:=false) rfl (VZ ?_);have hw:(IntKind.i64.wrap ((j:Int)+1))=((j+1:Nat):Int):=by{simp only[IntKind.wrap,IntKind.bits,IntKind.signed];simp;split<;>omega};refine VY<|iD eE<|iD aa<|BH ⟨hlt,rfl,rfl,rfl, ?_⟩;exact qD (qD (qD (qD (qD (qD VM))))) (by show U.val (.int .i64 (IntKind.i64.wrap ((j:Int)+1)))=_;rw[hw])};·exact iD gX<|BH<|ID (bb:=true) rfl (amq ⟨.inr rfl, .inr rfl⟩)};·have hd:decide ((j:Int)<(ks.length:Int))=false:=by{simp;omega};refine IE (ID (bb:=false) (by rw[<-hd];rfl) (amo ?_));obtain rfl:j=ks.length:=by{omega};exact⟨.inl rfl, .inl rfl⟩
end
open Go
def n3(P:Program)(cu:Nat->Option (List U)):aF:={P:=P,cu:=cu,ext:=fun _=>none,cp:=fun _=>[],eI:=fun _=>[],live:=fun _ _=>[],iu:=fun _ _=>[]}
theorem Zs{P:Program}{cu:Nat->Option (List U)}(h:qJ P):kI (n3 P cu):=⟨h,(fun k p(h:(none:Option (Nat×Nat))=some p)=>by cases h),(fun k(h:false=true)=>by cases h)⟩
theorem Zt{P:Program}{cu:Nat->Option (List U)}:rL (n3 P cu):=⟨(fun f i b l(h:(none:Option (Bool×List Nat))=some (b,l))=>by cases h),(fun f i b l(h:(none:Option (Bool×List Nat))=some (b,l))=>by cases h),(fun f i b l(h:(none:Option (Bool×List Nat))=some (b,l))=>by cases h)⟩
theorem ag2{C:aF}{k:FuncId}{fn:Func}{c:Code}(ad3:qJ C.P)(hw:C.P.follows .mixedOrders=true)(hf:C.P.funcs[k]? =some fn)(hb:fn.body=some c)(hok:o8 (n3 C.P C.cu) k c=true)(hle:C.cp k=[])(h:∀{us:List Value}{i c:Int}{cells:List U}{ks:Rows}{u:Value},(∀u∈us,eo u=true)->cells[4]? =some (.sl ks)->ks[i.toNat]? =some [.val (.int .i64 c)]->us[c.toNat]? =some u->0<=i->0<=c->den (n3 C.P C.cu) 1 k [.val (.int .i64 i), .ay [.sl (us.map fun u=>[.val u])], .ay cells]=some (.val u,[])):zl C k:=by intro w cH vs us i c cells ks u o3 hargs h4 hk hu hi hc hI hg;have hs:Sound (n3 C.P C.cu) k [.val (.int .i64 i), .ay [.sl (us.map fun u=>[.val u])], .ay cells] (.val u,[]):=TL (Zs ad3) hw (fun _ _=>fN.nil) Zt (fun k it(h:(none:Option (List U->Option (List (List U))))=some it)=>by cases h) (fun k(h:false=true)=>by cases h) (fun g a r(h:(none:Option (List U->Option (U×List U)))=some g)=>by cases h) (fun fn' c' _ h1 h2=>by have h1:C.P.funcs[k]? =some fn':=h1;rw[hf]at h1;obtain rfl:=H3 h1;rw[hb]at h2;obtain rfl:=H3 h2;exact hok) (call:=den (n3 C.P C.cu) 0) (fun k as r(h:(none:Option (U×List U))=some r)=>by cases h) AO (h o3 h4 hk hu hi hc);have:=hs.1 rfl w cH [] vs hargs Ha (fun b hb=>⟨hI b hb,by simp⟩) (fun b hb=>by cases hb) hg;have post:∀v w',wQ w [] cH (su ((n3 C.P C.cu).cp k) vs) (.val u,[]) v w'->v=u∧Kept w w' (fun _=>False):=fun v w' hr=>by{obtain⟨I',fr,g1,_,_,_⟩:=hr.ex;obtain⟨f1,f2,v1,vs',_,e1,k1,_⟩:=av.cons_inv g1;simp only[List.cons.injEq]at e1;obtain⟨rfl,_⟩:=e1;exact⟨k1.gB.2,⟨hr.kept.size,fun b hb _=>hr.kept.blk b hb (by simp),hr.kept.os,hr.kept.out,hr.kept.eI,hr.kept.nN⟩⟩};rcases this with⟨fn',c',q1,bS,cA⟩|⟨v,w',q1,bS⟩;·{exact .inl ⟨fn',c',q1,bS,cA.mono fun e w' hh=>by obtain⟨v,rfl,hr⟩:=hh;exact⟨v,rfl,post v w' hr⟩⟩};·exact .inr ⟨v,w',q1,post v w' bS⟩
end Go.Ab
