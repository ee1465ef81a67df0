import Derived.Test.YtbbhbdlljfffdaaGreatDoorAbV12
import Derived.Test.YtbbhbdlljfffdaaGreatDoorAbIn
open Array renaming replicate->Ha,getElem?_eq_none->Hd,getElem?_eq_getElem->Hk
open List renaming range->AC,nodup_nil->GT,length_cons->Hb,range'_succ->Hc,getElem?_eq_none->Hm
open Nat renaming lt_or_ge->Do,blt->GE
open Option renaming bind_eq_some_iff->Hn
open Option.some renaming inj->H0
set_option linter.all false
namespace Go.Ab
open Go
abbrev yw:=Nat->(Nat->Prop)->World->Prop
def yu(J:yw):Prop:=∀i X Y W W',J i X W->Kept W W' (fun _=>False)->(∀b,Y b->(X b∨W.heap.size<=b)∧b<W'.heap.size)->J i Y W'
def Ek(J cV:yw):Option Nat->(Nat->Prop)->World->Prop|some i,X,W=>J i X W|none,X,W=>∃i,cV i X W
def nt(C:ax)(J cV:yw)(z:Option Nat)(S:ah)(a:Act)(W:World):Prop:=a.defers=[]∧∃E β F,ay C E W S a β F∧(∀b,¬E.eA b)∧(∀id,S.h id=none)∧Ek J cV z (av E W F) W
/-! ### Operations that defer nothing -/
def kS:Op->Bool| .move _| .assign _| .load _ _| .fieldAddr _ _ _| .indexAddr _ _ _| .binOp _ _ _ _ _| .unOp _ _ _| .field _ _ _| .extract _ _| .box _ _| .alloc _| .build _ _=>true| .call c=>(match c.callee with| .builtin .len=>true|_=>false)|_=>false
theorem R1{P:Program}{w w':World}{s:Sem Value}{d:Deferred}:(do pure (Next.value (<-s)):Sem Next).run P w≠ .ok (.defer d) w':=by intro h;rw[Sem.run_bind]at h;cases hs:s.run P w with|ok v w1=>(rw[hs]at h;simp at h)|halt x w1=>rw[hs]at h;cases h
theorem afG{P:Program}{ρ:Operand->Value}{o:Oper}{w w':World}{d:Deferred}(hp:kS o.op=true):(execOp ρ o).run P w≠ .ok (.defer d) w':=by
 unfold kS at hp
 split at hp
 all_goals try(rename_i ho;unfold execOp;rw[ho];exact R1)
 ·rename_i ho;unfold execOp;rw[ho];intro h;cases h
 ·rename_i ho;unfold execOp;rw[ho];intro h;cases h
 ·rename_i c ho
  split at hp
  ·rename_i hc
   have e:execOp ρ o=builtin .len c.argTypes o.type (c.args.map fun| .const _=>true|_=>false) (c.args.map ρ):=by
    unfold execOp;rw[ho];simp only[resolve,hc];rfl
   rw[e]
   exact R1
  ·cases hp
 ·cases hp
theorem afF{o:Oper}(hp:kS o.op=true)(c:Call):o.op≠ .defer c:=fun e=>by rw[e]at hp;cases hp
section
variable{C:ax}{f:FuncId}{call:eZ}{J cV:yw}{z:Option Nat}{S:ah}{a:Act}{W w:World}
theorem ait{P:Program}{o:Oper}{next next':Act->World->Prop}{Q:Exit->Act->World->Prop}(hp:kS o.op=true)(h:o.wp P a w next Q)(hn:∀w' v,next (a.put o.dst v) w'->next' (a.put o.dst v) w'):o.wpIn Fence.wide 0 P a w next' Q:=by refine⟨fun f _=>Ef none f, ?_⟩;rw[Oper.semAt_eq _ _ _ (afF hp)];unfold Oper.wp at h;have hnd:∀d w',(execOp a.eval o).run P w≠ .ok (.defer d) w':=fun d w'=>afG hp;generalize(execOp a.eval o).run P w=r at*;cases r with|ok x w'=>(cases x with|value v=>(exact hn _ v h)|skip=>(exact hn _ undef h)|defer d=>(exact absurd rfl (hnd d w'))|enter f args=>(exact⟨yq none,MZ (ro:=none) (h.mono fun e w'' he=>by cases e<;>first|exact hn _ _ he|exact he)⟩)|row row args=>(exact⟨yq none,RM (ro:=none) (h.mono fun v w'' he=>hn _ _ he)⟩)|round l f tmps assign body=>(exact h.elim)|_=>exact h)|halt x w'=>cases x<;>exact h
theorem nt.start(o3:yu J)(B3:yu cV)(h:nt C J cV z S a W):a.defers=[]∧∃E β F,ay C E W S a β F∧E.w0=W∧(∀b,¬E.eA b)∧(∀id,F id=[])∧(∀id,S.h id=none)∧Ek J cV z (av E W F) W:=by obtain⟨h0,E,β,F,h1,h2,h3,h4⟩:=h;have hF:∀id,F id=[]:=fun id=>h1.dead id (by rw[h3];simp);refine⟨h0,E.at W F,β,F,h1.Gs,rfl,fun b hb=> ?_,hF,h3, ?_⟩;·{obtain⟨id,hm⟩:=hb;rw[hF]at hm;cases hm};·have key:∀b,av (E.at W F) W F b->(av E W F b∨W.heap.size<=b)∧b<W.heap.size:=fun b hb=>⟨.inl (LO.1 hb),hb.2.1⟩;cases z with|some i=>(exact o3 _ _ _ _ _ h4 (Kept.refl _ _) key)|none=>obtain⟨i,h4⟩:=h4;exact⟨i,B3 _ _ _ _ _ h4 (Kept.refl _ _) key⟩
theorem nt.fin{E:Env}{F:Id->List Nat}(o3:yu J)(B3:yu cV)(h0:E.w0=W)(hE:∀b,¬E.eA b)(hF:∀id,F id=[])(hj:Ek J cV z (av E W F) W){S':ah}{a':Act}{w':World}(hS:aL C E S' a' w')(hh:∀id,S'.h id=none)(hd:a'.defers=[]):nt C J cV z S' a' w':=by subst h0;obtain⟨β',F',h'⟩:=hS;have hk:Kept E.w0 w' (fun _=>False):=⟨h'.kept.size,fun b h1 _=>h'.kept.blk b h1 (hE b),h'.kept.os,h'.kept.out,h'.kept.dY,h'.kept.mq⟩;have key:∀b,av E w' F' b->(av E E.w0 F b∨E.w0.heap.size<=b)∧b<w'.heap.size:=fun b hb=>⟨by rcases Do b E.w0.heap.size with h|h;·{refine .inl ⟨?_,h,fun id hm=>by rw[hF]at hm;cases hm⟩;rcases hb.1 with h1|h1|h1;·{exact .inl h1};·{exact absurd h1 (hE b)};·omega};·exact .inr h,hb.2.1⟩;refine⟨hd,E,β',F',h',hE,hh, ?_⟩;cases z with|some i=>(exact o3 _ _ _ _ _ hj hk key)|none=>obtain⟨i,hj⟩:=hj;exact⟨i,B3 _ _ _ _ _ hj hk key⟩
/-! ### The walk -/
structure MC(C:ax)(call:eZ)(l:Nat)(ys:List (List U))(J cV:yw):Prop where
 n:hO C
 calls:∀k as r,call k as=some r->Sound C k as r
 j:yu J
 FM:yu cV
 y:∀i X W vs y,J i X W->ys[i]? =some y->an W X br [] vs y->YieldAt Fence.wide 0 C.P l ⟨vs⟩ W fun e W'=>((e= .returned (.bool true)∧J (i+1) X W')∨(e= .returned (.bool false)∧cV (i+1) X W'))∧∀b,X b->W'.heap[b]? =W.heap[b]?
def kX(C:ax)(f:FuncId)(call:eZ)(l:Nat)(ys:List (List U))(c:Code)(z:Option Nat)(S:ah)(Q:Exit->Option Nat->ah->Prop):Prop:=∀J cV,MC C call l ys J cV->∀a W jj,nt C J cV z S a W->(∀e z' S' a' W',Q e z' S'->nt C J cV z' S' a' W'->jj e a' W')->c.wpIn Fence.wide 0 C.P jj a W
def sC(C:ax)(f:FuncId)(call:eZ)(l:Nat)(ys:List (List U))(ops:Array Oper)(i:Nat)(os:List Oper)(z:Option Nat)(S:ah)(Q:Option Nat->ah->Prop):Prop:=(∀j,os[j]? =ops[i+j]?)->∀J cV,MC C call l ys J cV->∀a W jj,nt C J cV z S a W->(∀z' S' a' W',Q z' S'->nt C J cV z' S' a' W'->jj .normal a' W')->wpOpsIn Fence.wide 0 C.P ops jj (List.range' i os.length) a W
end
section
variable{C:ax}{f:FuncId}{call:eZ}{l:Nat}{ys:List (List U)}{z:Option Nat}{S:ah}{Q:Exit->Option Nat->ah->Prop}{c b:Code}{ops:Array Oper}{i n d:Nat}{os:List Oper}{K:Option Nat->ah->Prop}
variable{t:Nat->U}{h:Id->Option (Option Rows)}{op:Op}{ty:TypeId}{pos:String}{aG:Array Edge}{v:U}
theorem A1(k:K z S):sC C f call l ys ops i [] z S K:=fun _ J cV _ a W jj hS hQ=>hQ _ _ _ _ k hS
theorem hM(he:bp C f call ⟨n,t,h⟩ true ⟨some d,op,ty,pos,aG,none⟩=some ⟨[(d,v)],[],[]⟩)(k:sC C f call l ys ops (i+1) os z ⟨n,aj t d v,h⟩ K)(hs:GE d n=true:=by exact rfl)(hp:kS op=true:=by exact rfl):sC C f call l ys ops i (⟨some d,op,ty,pos,aG,none⟩::os) z ⟨n,t,h⟩ K:=by intro hl J cV fQ a W jj hS hQ;have h0:ops[i]? =some ⟨some d,op,ty,pos,aG,none⟩:=by{simpa using(hl 0).symm};obtain⟨g0,E,β,F,g1,g2,g3,g4,g5,g6⟩:=hS.start fQ.j fQ.FM;rw[Hb,Hc,wpOpsIn_cons];unfold wpOpIn;simp only[h0];have hw:Region.wanted (⟨some d,op,ty,pos,aG,none⟩:Oper) (yielded ops a.tmps)=true:=rfl;rw[if_pos hw];have hlt:d<n:=of_decide_eq_true (nv hs);refine ait hp (F8 (next:=aL C E ⟨n,aj t d v,h⟩) fQ.n fQ.calls g1 he (by simp[b9,hlt]) fun a' w' hx=>hx) fun w' u hx=> ?_;exact k (fun j=>by have:=hl (j+1);simpa[Nat.add_assoc,Nat.add_comm 1 j]using this) J cV fQ _ _ jj (nt.fin (E:=E) (F:=F) fQ.j fQ.FM g2 g3 g4 g6 hx g5 (by rw[put_defers];exact g0)) hQ
theorem aiE{bV:Operand}{xs:List Operand}{ts:Array TypeId}{k:Nat}{y:List U}(hfo:un true ((⟨n,t,h⟩:ah).get C bV)= .fn (.yield l) [] [])(hy:ys[k]? =some y)(hxs:(xs.map fun x=>un true ((⟨n,t,h⟩:ah).get C x))=y)(hi:ew y=true)(k1:sC C f call l ys ops (i+1) os (some (k+1)) ⟨n,aj t d (.val (.bool true)),h⟩ K)(k2:sC C f call l ys ops (i+1) os none ⟨n,aj t d (.val (.bool false)),h⟩ K)(hs:GE d n=true:=by exact rfl):sC C f call l ys ops i (⟨some d, .call ⟨.value bV,⟨xs⟩,ts⟩,ty,pos,aG,none⟩::os) (some k) ⟨n,t,h⟩ K:=by intro hl J cV fQ a W jj hS hQ;have h0:ops[i]? =some ⟨some d, .call ⟨.value bV,⟨xs⟩,ts⟩,ty,pos,aG,none⟩:=by{simpa using(hl 0).symm};obtain⟨g0,E,β,F,g1,g2,g3,g4,g5,g6⟩:=hS.start fQ.j fQ.FM;have hlt:d<n:=of_decide_eq_true (nv hs);have iV:=g1.dw bV;rw[hfo]at iV;obtain⟨_,v1,v2,iV,r1,r2⟩:=iV.mH;obtain⟨_,rfl⟩:=r1.fc;obtain⟨_,rfl⟩:=r2.fc;have hargs:=an.ofMap g1 xs;rw[hxs]at hargs;have aal:an W (av E W F) br [] (xs.map a.eval) y:=an.nF hargs hi;obtain⟨fn,tmps,assign,body,hrun,hR⟩:=fQ.y k _ W _ y g6 hy aal;rw[Hb,Hc,wpOpsIn_cons];unfold wpOpIn;simp only[h0];have hw:Region.wanted (⟨some d, .call ⟨.value bV,⟨xs⟩,ts⟩,ty,pos,aG,none⟩:Oper) (yielded ops a.tmps)=true:=rfl;rw[if_pos hw];refine⟨fun f _=>Ef none f, ?_⟩;rw[Oper.semAt_eq _ _ _ (fun c e=>by cases e)];have hex:(execOp a.eval (⟨some d, .call ⟨.value bV,⟨xs⟩,ts⟩,ty,pos,aG,none⟩:Oper)).run C.P W= .ok (.round l fn tmps assign body) W:=by{have e1:(⟨xs⟩:Array Operand).map a.eval=⟨xs.map a.eval⟩:=by{apply Array.ext';simp};simp only[execOp,resolve,iV];rw[e1];simpa[invoke,go_sem]using hrun};rw[hex,Oper.uponIn_round];refine⟨yq none,hR.mono ?_⟩;have fin:∀(z':Option Nat)(bb:Bool)(W':World),(Ek J cV z' (av E W F) W')->(∀b,av E W F b->W'.heap[b]? =W.heap[b]?)->sC C f call l ys ops (i+1) os z' ⟨n,aj t d (.val (.bool bb)),h⟩ K->wpOpsIn Fence.wide 0 C.P ops jj (List.range' (i+1) os.length) (a.put (some d) (.bool bb)) W':=by{intro z' bb W' hj hb kk;have rm:∀b,av E W F b->b<W'.heap.size:=fun b hb'=>by{have:=hb b hb';rcases Do b W'.heap.size with h1|h1;·{exact h1};·rw[Hd h1,Hk hb'.2.1]at this;cases this};have zI:∀(id:Id)(b:Nat),b∉F id:=fun id b hm=>by{rw[g4]at hm;cases hm};let E':Env:={w0:=W',eA:=fun _=>False,cv:=av E W F,m:=0,le:=Nat.zero_le _};have oc:∀b,av E W F b->av E' W' F b:=fun b hb'=>⟨.inl hb',rm b hb',fun id=>zI id b⟩;refine kk (fun j=>by have:=hl (j+1);simpa[Nat.add_assoc,Nat.add_comm 1 j]using this) J cV fQ _ _ jj ⟨by rw[put_defers];exact g0,E',β,F, ?_,fun _ h=>h,g5, ?_⟩ hQ;·{refine{n:=(by rw[tG];exact g1.n),df:=(by rw[put_defers,g0];exact iP.nil (d0:=[])),slot:=fun t'=> ?_,obj:=fun id rows hr=>(by rw[g5]at hr;cases hr),dead:=fun id _=>g4 id,nd:=fun id=>(by rw[g4];exact GT),cR:=fun i j b hm=>absurd hm (zI i b),dom:=g1.dom,lt:=fun id b hm=>absurd hm (zI id b),kept:=Kept.refl _ _,bS:=fun g cs hg=>(g1.bS g cs hg).mono oc (fun b hb'=>hb b (by rcases hb' with h1|h1<;>first|exact h1|cases h1)) (fun _ _ h=>h),ns:=fun _ _ _ h=>h,kb:=fun _ _ h=>h.elim};rw[tF a d t' _ (by rw[g1.n];exact hlt)];by_cases e:t'=d;·{subst e;simp only[if_true,aj];exact .val rfl};·simp only[if_neg e,aj];exact(g1.slot t').mono oc (fun b hb'=>hb b (by rcases hb' with h1|h1<;>first|exact h1|cases h1)) (fun _ _ h=>h)};·have key:∀b,av E' W' F b->(av E W F b∨W'.heap.size<=b)∧b<W'.heap.size:=fun b hb'=>⟨by rcases hb'.1 with h1|h1|h1;·{exact .inl h1};·{exact h1.elim};·exact .inr h1,hb'.2.1⟩;cases z' with|some i=>(exact fQ.j _ _ _ _ _ hj (Kept.refl _ _) key)|none=>obtain⟨i,hj⟩:=hj;exact⟨i,fQ.FM _ _ _ _ _ hj (Kept.refl _ _) key⟩};rintro e W'⟨⟨rfl,hj⟩|⟨rfl,hj⟩,hb⟩;·{exact fin (some (k+1)) true W' hj hb k1};·exact fin none false W' ⟨_,hj⟩ hb k2
theorem SQ{id:Nat}(k:sC C f call l ys ⟨os⟩ 0 os z S fun z' S'=>Q .normal z' S'):kX C f call l ys (.region id ⟨os⟩ false) z S Q:=fun J cV fQ a W jj hS hQ=>by refine wpIn_region ?_;have:=k (fun j=>by simp) J cV fQ a W jj hS (fun z' S' a' W' hq=>hQ _ _ _ _ _ hq);simpa[List.range_eq_range']using this
theorem GP{a:Code}(k:kX C f call l ys a z S fun e z' S'=>match e with| .normal=>kX C f call l ys b z' S' Q|e=>Q e z' S'):kX C f call l ys (.seq a b) z S Q:=fun J cV fQ ac W jj hS hQ=>by refine wpIn_seq (k J cV fQ ac W _ hS fun e z' S' a' W' hq k9=> ?_);cases e with|normal=>(exact hq J cV fQ _ _ _ k9 hQ)|_=>exact hQ _ _ _ _ _ hq k9
theorem GQ{id:Nat}(k:sC C f call l ys ⟨os⟩ 0 os z S fun z' S'=>kX C f call l ys b z' S' Q):kX C f call l ys (.seq (.region id ⟨os⟩ false) b) z S Q:=GP (SQ k)
theorem SR(k:Q .normal z S):kX C f call l ys .skip z S Q:=fun J cV fQ a W jj hS hQ=>wpIn_skip (hQ _ _ _ _ _ k hS)
theorem aiC(k:Q .ret z S):kX C f call l ys .ret z S Q:=fun J cV fQ a W jj hS hQ=>wpIn_ret (hQ _ _ _ _ _ k hS)
theorem aiB{j:Nat}(k:Q (.exit j) z S):kX C f call l ys (.exit j) z S Q:=fun J cV fQ a W jj hS hQ=>wpIn_exit (hQ _ _ _ _ _ k hS)
theorem GO{x:Operand}{bb:Bool}{c1 c2:Code}(hx:un true (S.get C x)= .val (.bool bb))(k:kX C f call l ys (if bb then c1 else c2) z S Q):kX C f call l ys (.cond x c1 c2) z S Q:=fun J cV fQ a W jj hS hQ=>by have hv:a.eval x= .bool bb:=by{obtain⟨_,E,β,F,g1,_⟩:=hS;have:=g1.dw x;rw[hx]at this;exact this.fG.2};exact wpIn_cond hv (by have:=k J cV fQ a W jj hS hQ;cases bb<;>exact this)
theorem SP{j:Nat}(k:kX C f call l ys c z S fun e z' S'=>Q (match e with| .exit i=>if i=j then .normal else .exit i|e=>e) z' S'):kX C f call l ys (.block j c) z S Q:=fun J cV fQ a W jj hS hQ=>by refine wpIn_block (k J cV fQ a W _ hS fun e z' S' a' W' hq k9=> ?_);cases e with|exit i=>(simp only[Exit.inBlock];simp only at hq;split at hq;·{rename_i e;subst e;simpa using hQ _ _ _ _ _ hq k9};·rename_i e;simpa[e]using hQ _ _ _ _ _ hq k9)|_=>exact hQ _ _ _ _ _ hq k9
end
theorem acn{C:ax}{k:FuncId}{fn:Func}{c:Code}{call:eZ}{it:List U->Option (List (List U))}(hN:hO C)(cB:∀k as r,call k as=some r->Sound C k as r)(hf:C.P.funcs[k]? =some fn)(hb:fn.body=some c)(hres:fn.results= #[])(hnt:∀caps ys,it caps=some ys->1+caps.length<=fn.ntmps)
  (hh:∀l caps ys,it caps=some ys->∀id,(aA fn.ntmps (AC (1+caps.length)) (.fn (.yield l) [] []::caps)).h id=none)
  (hw:∀l caps ys,it caps=some ys->kX C k call l ys c (some 0) (aA fn.ntmps (AC (1+caps.length)) (.fn (.yield l) [] []::caps)) fun e z _=>(e= .normal∨e= .ret)∧(z=some ys.length∨z=none)):pY C k it:=by
 refine⟨⟨fn,c,hf,hb⟩,fun caps ys hit w0 I cs hcs hI wK l J cV W hW o3 B3 hy h0=> ?_⟩
 refine callsIn_of_wp hf hb trivial ?_
 have hvl:=hcs.length
 let vs:List Value:= .func (.yield l) #[] #[]::cs
 let args:List U:= .fn (.yield l) [] []::caps
 have Ct:vs.length=args.length:=by simp[vs,args,hvl]
 have akI:=hnt caps ys hit
 have aax:an W I br [] cs caps:=hcs.mono (fun _ h=>h) (fun b hb=>hW b (by rcases hb with h|h<;>first|exact h|cases h)) (fun _ _ h=>h)
 have hargs:an W I br [] vs args:=R.cons (f1:=[]) (f2:=[]) (.fn .nil .nil) aax
 have ZY:∀b,I b->b<W.heap.size:=fun b hb=>by
  have :=hW b hb
  rcases Do b W.heap.size with h1|h1
  ·exact h1
  ·rw[Hd h1,Hk (hI b hb)]at this;cases this
 have o7:(AC args.length).map ((⟨vs⟩++Ha (fn.ntmps-(⟨vs⟩:Array Value).size) undef:Array Value).getD · undef)=vs:=by
  apply List.ext_getElem?
  intro k
  rw[List.getElem?_map]
  rcases Do k args.length with hk|hk
  ·rw[List.getElem?_range hk]
   simp only[Option.map_some]
   rw[Array.getD_eq_getD_getElem?,Array.getElem?_append_left (by simpa[Ct]using hk)]
   have :k<vs.length:=by omega
   simp[this]
  ·rw[Hm (by simpa using hk),Hm (by omega)]
   rfl
 let E:Env:={w0:=W,eA:=fun _=>False,cv:=I,m:=W.heap.size,le:=Nat.le_refl _}
 have zB:aL C E (aA fn.ntmps (AC args.length) args) {tmps:=⟨vs⟩++Ha (fn.ntmps-(⟨vs⟩:Array Value).size) undef,defers:=[]} W:=by
  refine ay.enter (I:=I) (f:=[]) ?_ (iP.nil (d0:=[])) ?_ List.nodup_range GT (fun b hb=>⟨.inl hb,ZY b hb,by simp⟩) (fun b hb=>by cases hb) (Kept.refl W _) (fun g cs hg=> ?_) (fun _ _ _ h=>h) (fun _ _ _ h=>h)
  ·have :args.length=1+caps.length:=by simp[args];omega
   simp[Ct];omega
  ·rw[o7];exact hargs
  ·exact(wK g cs hg).mono (fun _ h=>h) (fun b hb=>hW b (by rcases hb with h|h<;>first|exact h|cases h)) (fun _ _ h=>h)
 have hlen:args.length=1+caps.length:=by simp[args];omega
 obtain⟨β,F,hS⟩:=zB
 have OT:∀id,(aA fn.ntmps (AC args.length) args).h id=none:=by rw[hlen];exact hh l caps ys hit
 have hF:∀id,F id=[]:=fun id=>hS.dead id (by rw[OT];simp)
 have aah:nt C J cV (some 0) (aA fn.ntmps (AC (1+caps.length)) args) {tmps:=⟨vs⟩++Ha (fn.ntmps-(⟨vs⟩:Array Value).size) undef,defers:=[]} W:=by
  rw[<-hlen]
  refine⟨rfl,E,β,F,hS,fun _ h=>h,OT, ?_⟩
  exact o3 _ _ _ _ _ h0 (Kept.refl _ _) fun b hb=>⟨by
   rcases hb.1 with h1|h1|h1
   ·exact .inl h1
   ·exact h1.elim
   ·exact .inr h1,hb.2.1⟩
 refine hw l caps ys hit J cV ⟨hN,cB,o3,B3,hy⟩ _ _ _ aah ?_
 rintro e z S' a' W'⟨he,hz⟩⟨hd,E',β',F',_,_,_,hj⟩
 have hq:(∃X,J ys.length X W')∨∃i X,cV i X W':=by
  rcases hz with rfl|rfl
  ·exact .inl ⟨_,hj⟩
  ·obtain⟨i,hj⟩:=hj;exact .inr ⟨i,_,hj⟩
 have hr:∃v,(results fn a'.tmps).run C.P W'= .ok v W':=⟨.tuple #[],by simp[results,hres]⟩
 obtain⟨v,hr⟩:=hr
 rcases he with rfl|rfl
 ·exact⟨hd,v,hr,⟨v,rfl⟩,hq⟩
 ·exact⟨hd,v,hr,⟨v,rfl⟩,hq⟩
open Go
/-! ### What it yields -/
def CI{α:Type}(nodes:List α):Nat->List Int->Option (List (Int×α))|_,[]=>some []|j,x::l=>(idx nodes x).bind fun n=>(CI nodes (j+1) l).bind fun r=>some (((j:Int),n)::r)
def CH{α:Type}(c:α->List U)(y:Int×α):List U:=[.val (.int .i64 y.1), .agg (c y.2)]
def EH(n:Int):List U:=[.val (.int .i64 n)]
def CF:Rows->Option (List Int)|[]=>some []|[.val (.int .i64 x)]::l=>(CF l).map (x::·)|_=>none
theorem Pq:∀{ks:Rows}{l:List Int},CF ks=some l->ks=l.map EH|[],l,h=>by{simp[CF]at h;subst h;rfl}|r::ks,l,h=>by unfold CF at h;split at h;·{rename_i e;cases e};·{rename_i x l' e;cases e;obtain⟨l2,h1,rfl⟩:=Option.map_eq_some_iff.1 h;rw[Pq h1];rfl};·cases h
def PC(off:Nat)(r:List U):Option (List Int):=match r.drop off with| .sl ks::_=>CF ks|_=>none
def xo(m off:Nat):List U->Option (List (List U))|[.aP [.sl rows], .aP [.val (.int .i64 k)]]=>if(rows.all fun r=>decide (r.length=m)&&r.all U.cell&&ew r&&cT r)=true then(idx rows k).bind fun r=>(PC off r).bind fun l=>if l.length<=4294967296 then(CI rows 0 l).map (·.map (CH id))else none else none|_=>none
/-! ### The iterator keeps its word -/
theorem PD{α:Type}{nodes:List α}:∀{l:List Int}{j:Nat}{ys:List (Int×α)},CI nodes j l=some ys->ys.length=l.length∧∀(i:Nat)(x:Int),l[i]? =some x->∃n,idx nodes x=some n∧ys[i]? =some (((j+i:Nat):Int),n)|[],j,ys,h=>by{simp[CI]at h;subst h;exact⟨rfl,fun i x h=>by simp at h⟩}|x::l,j,ys,h=>by simp only[CI,Hn,Option.some.injEq]at h;obtain⟨n,h1,r,h2,rfl⟩:=h;obtain⟨g1,g2⟩:=PD h2;refine⟨by simp[g1],fun i x' hx=> ?_⟩;cases i with|zero=>(simp at hx;subst hx;exact⟨n,h1,by simp⟩)|succ i=>obtain⟨n',k1,k2⟩:=g2 i x' (by simpa using hx);exact⟨n',k1,by rw[List.getElem?_cons_succ,k2];congr 3;omega⟩
def yL(g f:Nat->U):Prop:=∀t,f t=g t∨f t= .aF
theorem SH{g:Nat->U}:yL g (fun _=> .aF):=fun _=> .inr rfl
theorem pU{g f:Nat->U}{s:Nat}{v:U}(h:yL g f)(hs:g s=v:=by exact rfl):yL g (aj f s v):=fun t=>by by_cases e:t=s;·{subst e;left;simp[aj,hs]};·simpa[aj,e]using h t
theorem nt.weak{C:ax}{J cV:yw}{z:Option Nat}{a:Act}{W:World}{n:Nat}{t t':Nat->U}{h:Id->Option (Option Rows)}(hw:yL t t')(hS:nt C J cV z ⟨n,t,h⟩ a W):nt C J cV z ⟨n,t',h⟩ a W:=by obtain⟨h0,E,β,F,h1,h2,h3,h4⟩:=hS;refine⟨h0,E,β,F,{n:=h1.n,df:=h1.df,slot:=fun u=> ?_,obj:=h1.obj,dead:=h1.dead,nd:=h1.nd,cR:=h1.cR,dom:=h1.dom,lt:=h1.lt,kept:=h1.kept,bS:=h1.bS,ns:=h1.ns,kb:=h1.kb},h2,h3,h4⟩;rcases hw u with e|e;·{simp only[e];exact h1.slot u};·simp only[e];exact .aF
section
variable{C:ax}{f:FuncId}{call:eZ}{l:Nat}{ys:List (List U)}{z:Option Nat}{Q:Exit->Option Nat->ah->Prop}{c:Code}{n:Nat}{t:Nat->U}{h:Id->Option (Option Rows)}
theorem aiA(L:Nat)(rep:Nat->Nat->U)(h0:yL t (rep 0))(round:∀j,j<=L->kX C f call l ys c (some j) ⟨n,rep j,h⟩ fun e z' S'=>match e with| .normal=>j<L∧z'=some (j+1)∧S'.n=n∧S'.h=h∧yL S'.t (rep (j+1))|e=>Q e z' S'):kX C f call l ys (.loop c) (some 0) ⟨n,t,h⟩ Q:=by intro J cV fQ a W jj hS hQ;refine LB (fun m a W=>∃j,j+m=L∧nt C J cV (some j) ⟨n,rep j,h⟩ a W) L ⟨0,by omega,hS.weak h0⟩ ?_;rintro m a W⟨j,hj,hS⟩;refine round j (by omega) J cV fQ a W _ hS fun e z' S' a' W' hq k9=> ?_;cases e with|normal=>(obtain⟨h1,rfl,h2,h3,h4⟩:=hq;obtain⟨n',t',h'⟩:=S';simp only at h2 h3 h4;subst h2 h3;exact⟨m-1,by omega,j+1,by omega,k9.weak h4⟩)|_=>exact hQ _ _ _ _ _ hq k9
end
section
variable{C:ax}{k:FuncId}{fn:Func}{G4 yF sv yA A6 UE:TypeId}{m off dc:Nat}{y0 y1 c4 bt bG c5 cu dr cK gl ei fj oJ D6 D7 nW jX gk kT qJ tY aiw aix aiy aiz:TypeId}{kn p1 p2 p3 iK ko rN vh KG KH aeX aeY aeZ ae0 ae1 ae2 ae3 ae4 ae5 ae6 ae7 ae8 ae9 afa afb:String}{f0 f1 f2 f3 f4 f5 f6 f7 f8 f9 f10 f11 f12 f13 f14 f15 f16 f17 f18 f19 f20 f21 f22 f23 f24:Array Edge}
set_option maxHeartbeats 2000000 in theorem acC [Fd C G4 0 0 1 false][cX C yF false 1][de C yF (.slice yA)][cX C yA true m][Fd C yA dc off 1 false][cX C A6 false 1][de C A6 (.slice sv)][cX C sv false 1](hm0:GE off m=true)(hN:hO C)(hf:C.P.funcs[k]? =some fn)(hn:fn.ntmps=28)(hres:fn.results= #[])(hfz:∀t,(C.dY k).contains t=false)(hb:fn.body=some (.seq (.region 0 ⟨[⟨some 6, .fieldAddr G4 (.tmp 1) 0,y0,kn,f0,none⟩,⟨some 7, .load yF (.tmp 6),y1,p1,f1,none⟩,⟨some 8, .load sv (.tmp 2),c4,p2,f2,none⟩,⟨some 9, .indexAddr yF (.tmp 7) (.tmp 8),bt,p3,f3,none⟩,⟨some 10, .fieldAddr yA (.tmp 9) dc,bG,iK,f4,none⟩,⟨some 11, .load A6 (.tmp 10),c5,ko,f5,none⟩,⟨some 12, .call ⟨.builtin .len,⟨[.tmp 11]⟩,⟨[A6]⟩⟩,cu,rN,f6,none⟩,⟨some 13, .move (.const (.int .i64 0)),dr,vh,f7,none⟩]⟩ false) (.block 0 (.loop (.seq (.region 1 ⟨[⟨some 14, .binOp .lss sv (.tmp 13) (.tmp 12) sv,cK,KG,f8,none⟩]⟩ false) (.seq (.cond (.tmp 14) .skip (.exit 0)) (.seq (.block 1 (.seq (.region 2 ⟨[⟨some 15, .move (.tmp 13),gl,KH,f9,none⟩,⟨some 16, .indexAddr A6 (.tmp 11) (.tmp 13),ei,aeX,f10,none⟩,⟨some 17, .load sv (.tmp 16),fj,aeY,f11,none⟩,⟨some 4, .assign (.tmp 15),oJ,aeZ,f12,none⟩,⟨some 5, .assign (.tmp 17),D6,ae0,f13,none⟩]⟩ false) (.seq (.region 3 ⟨[⟨some 18, .move (.tmp 0),D7,ae1,f14,none⟩,⟨some 19, .move (.tmp 4),nW,ae2,f15,none⟩,⟨some 20, .fieldAddr G4 (.tmp 1) 0,jX,ae3,f16,none⟩,⟨some 21, .load yF (.tmp 20),gk,ae4,f17,none⟩,⟨some 22, .move (.tmp 5),kT,ae5,f18,none⟩,⟨some 23, .indexAddr yF (.tmp 21) (.tmp 22),qJ,ae6,f19,none⟩,⟨some 24, .load yA (.tmp 23),tY,ae7,f20,none⟩,⟨some 25, .call ⟨.value (.tmp 18),⟨[.tmp 19, .tmp 24]⟩,⟨[sv,yA]⟩⟩,aiw,ae8,f21,none⟩,⟨some 26, .unOp .not UE (.tmp 25),aix,ae9,f22,none⟩]⟩ false) (.cond (.tmp 26) .ret .skip)))) (.region 4 ⟨[⟨some 27, .binOp .add sv (.tmp 13) (.const (.int .i64 1)) sv,aiy,afa,f23,none⟩,⟨some 13, .move (.tmp 27),aiz,afb,f24,none⟩]⟩ false)))))))):pY C k (xo m off):=by have hm:off<m:=of_decide_eq_true (nv hm0);refine acn (call:=fun _ _=>none) hN (fun _ _ _ h=>by cases h) hf hb hres ?_ ?_ ?_;·{intro caps ys h;unfold xo at h;split at h;·{simp[hn]};·cases h};·{intro l caps ys h id;unfold xo at h;split at h;·{rfl};·cases h};intro l caps ys h;rw[hn];unfold xo at h;split at h;(case h_2=>cases h);rename_i rows k0;split at h;(case isFalse=>cases h);rename_i hall;obtain⟨q,rfl⟩:∃q:List (ez m),rows=q.map ez.v:=by{refine⟨rows.attachWith _ (fun r hr=>List.all_eq_true.1 hall r hr), ?_⟩;exact(List.attachWith_map_subtype_val _).symm};clear hall;simp only[Hn]at h;obtain⟨af2,h1,ks,h2,h3⟩:=h;split at h3;(case isFalse=>cases h3);rename_i hbd;obtain⟨LG,h4,rfl⟩:=Option.map_eq_some_iff.1 h3;obtain⟨dU,kJ,rfl⟩:∃dU,idx q k0=some dU∧af2=dU.v:=by{have hb:=CB h1;obtain⟨dU,hr⟩:∃dU,q[k0.toNat]? =some dU:=⟨_,List.getElem?_eq_getElem (by simp at hb;omega)⟩;have:idx q k0=some dU:=by{unfold idx;rw[if_pos hb.1,hr]};refine⟨dU,this, ?_⟩;rw[JL this]at h1;exact(Option.some.inj h1).symm};obtain⟨rs,aaC⟩:∃rs,dU.v.drop off= .sl (ks.map EH)::rs:=by{unfold PC at h2;split at h2;·{rename_i ks' rs e;rw[Pq h2]at e;exact⟨rs,e⟩};·cases h2};have hlen:∀r:ez m,r.v.length=m:=fun r=>(y6 r).1;have hle:∀r:ez m,Nat.ble off r.v.length=true:=fun r=>Nat.ble_eq_true_of_le (by rw[hlen];omega);have mP:GE 0 m=true:=by{simp[GE];omega};obtain⟨Zt,gg⟩:=PD h4;have abM:(LG.map (CH id)).length=ks.length:=by{simp[Zt]};rw[abM];let st:Nat->Nat->U:=fun j=>aj (aj (aj (aj (aj (aj (fun _=> .aF) 0 (.fn (.yield l) [] [])) 1 (.aP [.sl (q.map ez.v)])) 2 (.aP [.val (.int .i64 k0)])) 11 (.sl (ks.map EH))) 12 (.val (.int .i64 ks.length))) 13 (.val (.int .i64 (j:Int)));show kX C k (fun _ _=>none) l (LG.map (CH id)) _ (some 0) ⟨28,aj (aj (aj (fun _=> .aF) 2 (.aP [.val (.int .i64 k0)])) 1 (.aP [.sl (q.map ez.v)])) 0 (.fn (.yield l) [] []),fun _=>none⟩ _;refine GQ<|hM (bN (C:=C) (hz:=hfz _))<|hM bw<|hM bw<|hM (jR kJ (h0:=mP) (hr:=hlen _))<|hM (bN (hl:=hle _) (hz:=hfz _))<|hM (bw (hv:=aaC))<|hM ir<|hM aa<|A1<|SP<|aiA ks.length st ?_ ?_;·{exact pU (pU (pU (pU (pU (pU SH)))))};intro j hj;refine GQ<|hM (eV (a:=(j:Int)) (b:=(ks.length:Int)))<|A1 ?_;rcases Do j ks.length with hlt|hge;·{have hd:decide ((j:Int)<(ks.length:Int))=true:=by{simp;omega};obtain⟨x,hx⟩:∃x,ks[j]? =some x:=⟨_,List.getElem?_eq_getElem hlt⟩;have aaY:idx ks (j:Int)=some x:=by{unfold idx;rw[if_pos (by omega)];simpa using hx};obtain⟨nd,hnd,hy⟩:=gg j x hx;obtain⟨nd,oh,rfl⟩:∃r,idx q x=some r∧nd=r.v:=by{have hb:=CB hnd;obtain⟨r,hr⟩:∃r,q[x.toNat]? =some r:=⟨_,List.getElem?_eq_getElem (by simp at hb;omega)⟩;have:idx q x=some r:=by{unfold idx;rw[if_pos hb.1,hr]};refine⟨r,this, ?_⟩;rw[JL this]at hnd;exact(Option.some.inj hnd).symm};have abR:(LG.map (CH id))[j]? =some [.val (.int .i64 (j:Int)), .agg nd.v]:=by{rw[List.getElem?_map,hy];simp[CH]};have htk:nd.v.take m=nd.v:=List.take_of_length_le (by rw[hlen];omega);refine GP (GO (bb:=true) (by rw[<-hd];rfl) (SR ?_));refine GP (SP ?_);refine GQ<|hM aa<|hM (jR (c:=EH) aaY)<|hM bw<|hM af<|hM af<|A1 ?_;refine GQ<|hM (aa (v:= .fn (.yield l) [] []) (h:=rfl))<|hM aa<|hM (bN (hz:=hfz _))<|hM bw<|hM aa<|hM (jR oh (h0:=mP) (hr:=hlen _))<|hM (jy (hl:=Nat.ble_eq_true_of_le (by rw[hlen];omega)) (hv:=htk))<|aiE rfl abR rfl ?_ ?_ ?_;·{have:=(y6 nd).2.2.1;simp[ew,e9,this]};·{refine hM iJ<|A1<|GO (bb:=false) rfl (SR ?_);have hw:(IntKind.i64.wrap ((j:Int)+1))=((j+1:Nat):Int):=by{simp only[IntKind.wrap,IntKind.bits,IntKind.signed];simp;split<;>omega};refine SQ<|hM dA<|hM aa<|A1 ⟨hlt,rfl,rfl,rfl, ?_⟩;exact pU (pU (pU (pU (pU (pU SH))))) (by show U.val (.int .i64 (IntKind.i64.wrap ((j:Int)+1)))=_;rw[hw])};·exact hM iJ<|A1<|GO (bb:=true) rfl (aiC ⟨.inr rfl, .inr rfl⟩)};·have hd:decide ((j:Int)<(ks.length:Int))=false:=by{simp;omega};refine GP (GO (bb:=false) (by rw[<-hd];rfl) (aiB ?_));obtain rfl:j=ks.length:=by{omega};exact⟨.inl rfl, .inl rfl⟩
end
open Go
def nu(P:Program)(bS:Nat->Option (List U)):ax:={P:=P,bS:=bS,ext:=fun _=>none,bX:=fun _=>[],dY:=fun _=>[],live:=fun _ _=>[],eK:=fun _ _=>[]}
theorem V5{P:Program}{bS:Nat->Option (List U)}(h:oO P):hO (nu P bS):=⟨h,(fun k p(h:(none:Option (Nat×Nat))=some p)=>by cases h),(fun k(h:false=true)=>by cases h)⟩
theorem V6{P:Program}{bS:Nat->Option (List U)}:qM (nu P bS):=⟨(fun f i b l(h:(none:Option (Bool×List Nat))=some (b,l))=>by cases h),(fun f i b l(h:(none:Option (Bool×List Nat))=some (b,l))=>by cases h),(fun f i b l(h:(none:Option (Bool×List Nat))=some (b,l))=>by cases h)⟩
theorem ac9{C:ax}{k:FuncId}{fn:Func}{c:Code}(aac:oO C.P)(hw:C.P.follows .mixedOrders=true)(hf:C.P.funcs[k]? =some fn)(hb:fn.body=some c)(hok:oy (nu C.P C.bS) k c=true)(hle:C.bX k=[])(h:∀{us:List Value}{i c:Int}{cells:List U}{ks:Rows}{u:Value},(∀u∈us,dN u=true)->cells[4]? =some (.sl ks)->ks[i.toNat]? =some [.val (.int .i64 c)]->us[c.toNat]? =some u->0<=i->0<=c->den (nu C.P C.bS) 1 k [.val (.int .i64 i), .aP [.sl (us.map fun u=>[.val u])], .aP cells]=some (.val u,[])):yx C k:=by intro w cv vs us i c cells ks u om hargs h4 hk hu hi hc hI hg;have hs:Sound (nu C.P C.bS) k [.val (.int .i64 i), .aP [.sl (us.map fun u=>[.val u])], .aP cells] (.val u,[]):=QA (V5 aac) hw (fun _ _=>fo.nil) V6 (fun k it(h:(none:Option (List U->Option (List (List U))))=some it)=>by cases h) (fun k(h:false=true)=>by cases h) (fun k g(h:(none:Option (Value->List U->List U->ah->Option ah))=some g)=>by cases h) (fun g a r(h:(none:Option (List U->Option (U×List U)))=some g)=>by cases h) (fun fn' c' _ h1 h2=>by have h1:C.P.funcs[k]? =some fn':=h1;rw[hf]at h1;obtain rfl:=H0 h1;rw[hb]at h2;obtain rfl:=H0 h2;exact hok) (call:=den (nu C.P C.bS) 0) (fun k as r(h:(none:Option (U×List U))=some r)=>by cases h) Ae (h om h4 hk hu hi hc);have:=hs.1 rfl w cv [] vs hargs GT (fun b hb=>⟨hI b hb,by simp⟩) (fun b hb=>by cases hb) hg;have post:∀v w',vO w [] cv (rI ((nu C.P C.bS).bX k) vs) (.val u,[]) v w'->v=u∧Kept w w' (fun _=>False):=fun v w' hr=>by{obtain⟨I',fr,g1,_,_,_⟩:=hr.ex;obtain⟨f1,f2,v1,vs',_,e1,k1,_⟩:=an.cons_inv g1;simp only[List.cons.injEq]at e1;obtain⟨rfl,_⟩:=e1;exact⟨k1.fG.2,⟨hr.kept.size,fun b hb _=>hr.kept.blk b hb (by simp),hr.kept.os,hr.kept.out,hr.kept.dY,hr.kept.mq⟩⟩};rcases this with⟨fn',c',q1,cg,dG⟩|⟨v,w',q1,cg⟩;·{exact .inl ⟨fn',c',q1,cg,dG.mono fun e w' hh=>by obtain⟨v,rfl,hr⟩:=hh;exact⟨v,rfl,post v w' hr⟩⟩};·exact .inr ⟨v,w',q1,post v w' cg⟩
end Go.Ab
