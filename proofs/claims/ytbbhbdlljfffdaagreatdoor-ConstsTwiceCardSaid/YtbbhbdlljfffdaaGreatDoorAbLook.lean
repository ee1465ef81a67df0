import Derived.Test.YtbbhbdlljfffdaaGreatDoorAbV14
import Derived.Test.YtbbhbdlljfffdaaGreatDoorAbClone
open Array renaming replicate→Hc,getElem?_eq_none→Hm,getElem?_eq_getElem→Hn
open List renaming range→GE,nodup_nil→Hb,length_cons→Hd,range'_succ→Hk,getElem?_eq_none→H0
open Nat renaming lt_or_ge→GT,blt→Ha
open Option renaming bind_eq_some_iff→H1
open Option.some renaming inj→H2
set_option linter.all false
namespace Go.Ab
open Go
abbrev tZ:=Nat→(Nat→Prop)→World→Prop
def tY(J:tZ):Prop:=∀i X Y W W',J i X W→Kept W W' (fun _=>False)→(∀b,Y b→(X b∨W.heap.size≤b)∧b<W'.heap.size)→J i Y W'
def Ad(J cq:tZ):Option Nat→(Nat→Prop)→World→Prop|some i,X,W=>J i X W|none,X,W=>∃i,cq i X W
def ku(C:av)(J cq:tZ)(z:Option Nat)(S:ah)(a:Act)(W:World):Prop:=a.defers=[]∧∃E β F,ax C E W S a β F∧(∀b,¬E.dG b)∧(∀id,S.h id=none)∧Ad J cq z (aq E W F) W
/-! ### Operations that defer nothing -/
def zl:Op→Bool| .move _| .assign _| .load _ _| .fieldAddr _ _ _| .indexAddr _ _ _| .binOp _ _ _ _ _| .unOp _ _ _| .field _ _ _| .extract _ _| .box _ _| .alloc _| .build _ _=>true| .call c=>(match c.callee with| .builtin .len=>true|_=>false)|_=>false
theorem Np{P:Program}{w w':World}{s:Sem Value}{d:Deferred}:(do pure (Next.value (←s)):Sem Next).run P w≠ .ok (.defer d) w':=by intro h;rw[Sem.run_bind]at h;cases hs:s.run P w with|ok v w1=>(rw[hs]at h;simp at h)|halt x w1=>rw[hs]at h;cases h
theorem aa4{P:Program}{ρ:Operand→Value}{o:Oper}{w w':World}{d:Deferred}(hp:zl o.op=true):(execOp ρ o).run P w≠ .ok (.defer d) w':=by
 unfold zl at hp
 split at hp
 all_goals try(rename_i ho;unfold execOp;rw[ho];exact Np)
 ·rename_i ho;unfold execOp;rw[ho];intro h;cases h
 ·rename_i ho;unfold execOp;rw[ho];intro h;cases h
 ·rename_i c ho
  split at hp
  ·rename_i hc
   have e:execOp ρ o=builtin .len c.argTypes o.type (c.args.map fun| .const _=>true|_=>false) (c.args.map ρ):=by
    unfold execOp;rw[ho];simp only[resolve,hc];rfl
   rw[e]
   exact Np
  ·cases hp
 ·cases hp
theorem aa3{o:Oper}(hp:zl o.op=true)(c:Call):o.op≠ .defer c:=fun e=>by rw[e]at hp;cases hp
section
variable{C:av}{f:FuncId}{call:eT}{J cq:tZ}{z:Option Nat}{S:ah}{a:Act}{W w:World}
theorem ada{P:Program}{o:Oper}{next next':Act→World→Prop}{Q:Exit→Act→World→Prop}(hp:zl o.op=true)(h:o.wp P a w next Q)(hn:∀w' v,next (a.put o.dst v) w'→next' (a.put o.dst v) w'):o.wpIn Fence.wide 0 P a w next' Q:=by refine⟨fun f _=>z8 none f, ?_⟩;rw[Oper.semAt_eq _ _ _ (aa3 hp)];unfold Oper.wp at h;have hnd:∀d w',(execOp a.eval o).run P w≠ .ok (.defer d) w':=fun d w'=>aa4 hp;generalize(execOp a.eval o).run P w=r at*;cases r with|ok x w'=>(cases x with|value v=>(exact hn _ v h)|skip=>(exact hn _ undef h)|defer d=>(exact absurd rfl (hnd d w'))|enter f args=>(exact⟨tW none,II (ro:=none) (h.mono fun e w'' he=>by cases e<;>first|exact hn _ _ he|exact he)⟩)|row row args=>(exact⟨tW none,Na (ro:=none) (h.mono fun v w'' he=>hn _ _ he)⟩)|round l f tmps assign body=>(exact h.elim)|_=>exact h)|halt x w'=>cases x<;>exact h
theorem ku.start(o4:tY J)(xT:tY cq)(h:ku C J cq z S a W):a.defers=[]∧∃E β F,ax C E W S a β F∧E.w0=W∧(∀b,¬E.dG b)∧(∀id,F id=[])∧(∀id,S.h id=none)∧Ad J cq z (aq E W F) W:=by obtain⟨h0,E,β,F,h1,h2,h3,h4⟩:=h;have hF:∀id,F id=[]:=fun id=>h1.dead id (by rw[h3];simp);refine⟨h0,E.at W F,β,F,h1.Ch,rfl,fun b hb=> ?_,hF,h3, ?_⟩;·{obtain⟨id,hm⟩:=hb;rw[hF]at hm;cases hm};·have key:∀b,aq (E.at W F) W F b→(aq E W F b∨W.heap.size≤b)∧b<W.heap.size:=fun b hb=>⟨.inl (HH.1 hb),hb.2.1⟩;cases z with|some i=>(exact o4 _ _ _ _ _ h4 (Kept.refl _ _) key)|none=>obtain⟨i,h4⟩:=h4;exact⟨i,xT _ _ _ _ _ h4 (Kept.refl _ _) key⟩
theorem ku.fin{E:Env}{F:Id→List Nat}(o4:tY J)(xT:tY cq)(h0:E.w0=W)(hE:∀b,¬E.dG b)(hF:∀id,F id=[])(hj:Ad J cq z (aq E W F) W){S':ah}{a':Act}{w':World}(hS:aO C E S' a' w')(hh:∀id,S'.h id=none)(hd:a'.defers=[]):ku C J cq z S' a' w':=by subst h0;obtain⟨β',F',h'⟩:=hS;have hk:Kept E.w0 w' (fun _=>False):=⟨h'.kept.size,fun b h1 _=>h'.kept.blk b h1 (hE b),h'.kept.os,h'.kept.out,h'.kept.dB,h'.kept.kg⟩;have key:∀b,aq E w' F' b→(aq E E.w0 F b∨E.w0.heap.size≤b)∧b<w'.heap.size:=fun b hb=>⟨by rcases GT b E.w0.heap.size with h|h;·{refine .inl ⟨?_,h,fun id hm=>by rw[hF]at hm;cases hm⟩;rcases hb.1 with h1|h1|h1;·{exact .inl h1};·{exact absurd h1 (hE b)};·omega};·exact .inr h,hb.2.1⟩;refine⟨hd,E,β',F',h',hE,hh, ?_⟩;cases z with|some i=>(exact o4 _ _ _ _ _ hj hk key)|none=>obtain⟨i,hj⟩:=hj;exact⟨i,xT _ _ _ _ _ hj hk key⟩
/-! ### The walk -/
structure Im(C:av)(call:eT)(l:Nat)(ys:List (List U))(J cq:tZ):Prop where
 n:iq C
 calls:∀k as r,call k as=some r→Sound C k as r
 j:tY J
 BC:tY cq
 y:∀i X W vs y,J i X W→ys[i]? =some y→ak W X aX [] vs y→YieldAt Fence.wide 0 C.P l ⟨vs⟩ W fun e W'=>((e= .returned (.bool true)∧J (i+1) X W')∨(e= .returned (.bool false)∧cq (i+1) X W'))∧∀b,X b→W'.heap[b]? =W.heap[b]?
def iZ(C:av)(f:FuncId)(call:eT)(l:Nat)(ys:List (List U))(c:Code)(z:Option Nat)(S:ah)(Q:Exit→Option Nat→ah→Prop):Prop:=∀J cq,Im C call l ys J cq→∀a W gD,ku C J cq z S a W→(∀e z' S' a' W',Q e z' S'→ku C J cq z' S' a' W'→gD e a' W')→c.wpIn Fence.wide 0 C.P gD a W
def oI(C:av)(f:FuncId)(call:eT)(l:Nat)(ys:List (List U))(ops:Array Oper)(i:Nat)(os:List Oper)(z:Option Nat)(S:ah)(Q:Option Nat→ah→Prop):Prop:=(∀j,os[j]? =ops[i+j]?)→∀J cq,Im C call l ys J cq→∀a W gD,ku C J cq z S a W→(∀z' S' a' W',Q z' S'→ku C J cq z' S' a' W'→gD .normal a' W')→wpOpsIn Fence.wide 0 C.P ops gD (List.range' i os.length) a W
end
section
variable{C:av}{f:FuncId}{call:eT}{l:Nat}{ys:List (List U)}{z:Option Nat}{S:ah}{Q:Exit→Option Nat→ah→Prop}{c b:Code}{ops:Array Oper}{i n d:Nat}{os:List Oper}{K:Option Nat→ah→Prop}
variable{t:Nat→U}{h:Id→Option (Option Rows)}{op:Op}{ty:TypeId}{pos:String}{aD:Array Edge}{v:U}
theorem wM(k:K z S):oI C f call l ys ops i [] z S K:=fun _ J cq _ a W gD hS hQ=>hQ _ _ _ _ k hS
theorem fS(he:aR C f call ⟨n,t,h⟩ true ⟨some d,op,ty,pos,aD,none⟩=some ⟨[(d,v)],[],[]⟩)(k:oI C f call l ys ops (i+1) os z ⟨n,ai t d v,h⟩ K)(hs:Ha d n=true:=by exact rfl)(hp:zl op=true:=by exact rfl):oI C f call l ys ops i (⟨some d,op,ty,pos,aD,none⟩::os) z ⟨n,t,h⟩ K:=by intro hl J cq eW a W gD hS hQ;have h0:ops[i]? =some ⟨some d,op,ty,pos,aD,none⟩:=by{simpa using(hl 0).symm};obtain⟨g0,E,β,F,g1,g2,g3,g4,g5,g6⟩:=hS.start eW.j eW.BC;rw[Hd,Hk,wpOpsIn_cons];unfold wpOpIn;simp only[h0];have hw:Region.wanted (⟨some d,op,ty,pos,aD,none⟩:Oper) (yielded ops a.tmps)=true:=rfl;rw[AC hw];have hlt:d<n:=of_decide_eq_true (jP hs);refine ada hp (BY (next:=aO C E ⟨n,ai t d v,h⟩) eW.n eW.calls g1 he (by simp[bV,hlt]) fun a' w' hx=>hx) fun w' u hx=> ?_;exact k (fun j=>by have:=hl (j+1);simpa[Nat.add_assoc,Nat.add_comm 1 j]using this) J cq eW _ _ gD (ku.fin (E:=E) (F:=F) eW.j eW.BC g2 g3 g4 g6 hx g5 (by rw[put_defers];exact g0)) hQ
theorem adu{bW:Operand}{xs:List Operand}{ts:Array TypeId}{k:Nat}{y:List U}(hfo:un true ((⟨n,t,h⟩:ah).get C bW)= .fn (.yield l) [] [])(hy:ys[k]? =some y)(hxs:(xs.map fun x=>un true ((⟨n,t,h⟩:ah).get C x))=y)(hi:c9 y=true)(k1:oI C f call l ys ops (i+1) os (some (k+1)) ⟨n,ai t d (.val (.bool true)),h⟩ K)(k2:oI C f call l ys ops (i+1) os none ⟨n,ai t d (.val (.bool false)),h⟩ K)(hs:Ha d n=true:=by exact rfl):oI C f call l ys ops i (⟨some d, .call ⟨.value bW,⟨xs⟩,ts⟩,ty,pos,aD,none⟩::os) (some k) ⟨n,t,h⟩ K:=by intro hl J cq eW a W gD hS hQ;have h0:ops[i]? =some ⟨some d, .call ⟨.value bW,⟨xs⟩,ts⟩,ty,pos,aD,none⟩:=by{simpa using(hl 0).symm};obtain⟨g0,E,β,F,g1,g2,g3,g4,g5,g6⟩:=hS.start eW.j eW.BC;have hlt:d<n:=of_decide_eq_true (jP hs);have jj:=g1.cQ bW;rw[hfo]at jj;obtain⟨_,v1,v2,jj,r1,r2⟩:=jj.lZ;obtain⟨_,rfl⟩:=r1.eK;obtain⟨_,rfl⟩:=r2.eK;have hargs:=ak.ofMap g1 xs;rw[hxs]at hargs;have V2:ak W (aq E W F) aX [] (xs.map a.eval) y:=ak.kK hargs hi;obtain⟨fn,tmps,assign,body,hrun,hR⟩:=eW.y k _ W _ y g6 hy V2;rw[Hd,Hk,wpOpsIn_cons];unfold wpOpIn;simp only[h0];have hw:Region.wanted (⟨some d, .call ⟨.value bW,⟨xs⟩,ts⟩,ty,pos,aD,none⟩:Oper) (yielded ops a.tmps)=true:=rfl;rw[AC hw];refine⟨fun f _=>z8 none f, ?_⟩;rw[Oper.semAt_eq _ _ _ (fun c e=>by cases e)];have hex:(execOp a.eval (⟨some d, .call ⟨.value bW,⟨xs⟩,ts⟩,ty,pos,aD,none⟩:Oper)).run C.P W= .ok (.round l fn tmps assign body) W:=by{have e1:(⟨xs⟩:Array Operand).map a.eval=⟨xs.map a.eval⟩:=by{apply Array.ext';simp};simp only[execOp,resolve,jj];rw[e1];simpa[invoke,go_sem]using hrun};rw[hex,Oper.uponIn_round];refine⟨tW none,hR.mono ?_⟩;have fin:∀(z':Option Nat)(bb:Bool)(W':World),(Ad J cq z' (aq E W F) W')→(∀b,aq E W F b→W'.heap[b]? =W.heap[b]?)→oI C f call l ys ops (i+1) os z' ⟨n,ai t d (.val (.bool bb)),h⟩ K→wpOpsIn Fence.wide 0 C.P ops gD (List.range' (i+1) os.length) (a.put (some d) (.bool bb)) W':=by{intro z' bb W' hj hb kk;have n5:∀b,aq E W F b→b<W'.heap.size:=fun b hb'=>by{have:=hb b hb';rcases GT b W'.heap.size with h1|h1;·{exact h1};·rw[Hm h1,Hn hb'.2.1]at this;cases this};have vb:∀(id:Id)(b:Nat),b∉F id:=fun id b hm=>by{rw[g4]at hm;cases hm};let E':Env:={w0:=W',dG:=fun _=>False,bZ:=aq E W F,m:=0,le:=Nat.zero_le _};have k9:∀b,aq E W F b→aq E' W' F b:=fun b hb'=>⟨.inl hb',n5 b hb',fun id=>vb id b⟩;refine kk (fun j=>by have:=hl (j+1);simpa[Nat.add_assoc,Nat.add_comm 1 j]using this) J cq eW _ _ gD ⟨by rw[put_defers];exact g0,E',β,F, ?_,fun _ h=>h,g5, ?_⟩ hQ;·{refine{n:=(by rw[pQ];exact g1.n),df:=(by rw[put_defers,g0];exact gr.nil (d0:=[])),slot:=fun t'=> ?_,obj:=fun id rows hr=>(by rw[g5]at hr;cases hr),dead:=fun id _=>g4 id,nd:=fun id=>(by rw[g4];exact Hb),ck:=fun i j b hm=>absurd hm (vb i b),dom:=g1.dom,lt:=fun id b hm=>absurd hm (vb id b),kept:=Kept.refl _ _,bM:=fun g cs hg=>(g1.bM g cs hg).mono k9 (fun b hb'=>hb b (by rcases hb' with h1|h1<;>first|exact h1|cases h1)) (fun _ _ h=>h),ns:=fun _ _ _ h=>h,kb:=fun _ _ h=>h.elim};rw[pP a d t' _ (by rw[g1.n];exact hlt)];by_cases e:t'=d;·{subst e;simp only[if_true,ai];exact .val rfl};·simp only[Do e,ai];exact(g1.slot t').mono k9 (fun b hb'=>hb b (by rcases hb' with h1|h1<;>first|exact h1|cases h1)) (fun _ _ h=>h)};·have key:∀b,aq E' W' F b→(aq E W F b∨W'.heap.size≤b)∧b<W'.heap.size:=fun b hb'=>⟨by rcases hb'.1 with h1|h1|h1;·{exact .inl h1};·{exact h1.elim};·exact .inr h1,hb'.2.1⟩;cases z' with|some i=>(exact eW.j _ _ _ _ _ hj (Kept.refl _ _) key)|none=>obtain⟨i,hj⟩:=hj;exact⟨i,eW.BC _ _ _ _ _ hj (Kept.refl _ _) key⟩};rintro e W'⟨⟨rfl,hj⟩|⟨rfl,hj⟩,hb⟩;·{exact fin (some (k+1)) true W' hj hb k1};·exact fin none false W' ⟨_,hj⟩ hb k2
theorem Ob{id:Nat}(k:oI C f call l ys ⟨os⟩ 0 os z S fun z' S'=>Q .normal z' S'):iZ C f call l ys (.region id ⟨os⟩ false) z S Q:=fun J cq eW a W gD hS hQ=>by refine wpIn_region ?_;have:=k (fun j=>by simp) J cq eW a W gD hS (fun z' S' a' W' hq=>hQ _ _ _ _ _ hq);simpa[List.range_eq_range']using this
theorem CD{a:Code}(k:iZ C f call l ys a z S fun e z' S'=>match e with| .normal=>iZ C f call l ys b z' S' Q|e=>Q e z' S'):iZ C f call l ys (.seq a b) z S Q:=fun J cq eW ac W gD hS hQ=>by refine wpIn_seq (k J cq eW ac W _ hS fun e z' S' a' W' hq jg=> ?_);cases e with|normal=>(exact hq J cq eW _ _ _ jg hQ)|_=>exact hQ _ _ _ _ _ hq jg
theorem CE{id:Nat}(k:oI C f call l ys ⟨os⟩ 0 os z S fun z' S'=>iZ C f call l ys b z' S' Q):iZ C f call l ys (.seq (.region id ⟨os⟩ false) b) z S Q:=CD (Ob k)
theorem Oc(k:Q .normal z S):iZ C f call l ys .skip z S Q:=fun J cq eW a W gD hS hQ=>wpIn_skip (hQ _ _ _ _ _ k hS)
theorem ads(k:Q .ret z S):iZ C f call l ys .ret z S Q:=fun J cq eW a W gD hS hQ=>wpIn_ret (hQ _ _ _ _ _ k hS)
theorem adr{j:Nat}(k:Q (.exit j) z S):iZ C f call l ys (.exit j) z S Q:=fun J cq eW a W gD hS hQ=>wpIn_exit (hQ _ _ _ _ _ k hS)
theorem CC{x:Operand}{bb:Bool}{c1 c2:Code}(hx:un true (S.get C x)= .val (.bool bb))(k:iZ C f call l ys (if bb then c1 else c2) z S Q):iZ C f call l ys (.cond x c1 c2) z S Q:=fun J cq eW a W gD hS hQ=>by have hv:a.eval x= .bool bb:=by{obtain⟨_,E,β,F,g1,_⟩:=hS;have:=g1.cQ x;rw[hx]at this;exact this.e3.2};exact wpIn_cond hv (by have:=k J cq eW a W gD hS hQ;cases bb<;>exact this)
theorem Oa{j:Nat}(k:iZ C f call l ys c z S fun e z' S'=>Q (match e with| .exit i=>if i=j then .normal else .exit i|e=>e) z' S'):iZ C f call l ys (.block j c) z S Q:=fun J cq eW a W gD hS hQ=>by refine wpIn_block (k J cq eW a W _ hS fun e z' S' a' W' hq jg=> ?_);cases e with|exit i=>(simp only[Exit.inBlock];simp only at hq;split at hq;·{rename_i e;subst e;simpa using hQ _ _ _ _ _ hq jg};·rename_i e;simpa[e]using hQ _ _ _ _ _ hq jg)|_=>exact hQ _ _ _ _ _ hq jg
end
theorem XY{C:av}{k:FuncId}{fn:Func}{c:Code}{call:eT}{it:List U→Option (List (List U))}(hN:iq C)(cS:∀k as r,call k as=some r→Sound C k as r)(hf:C.P.funcs[k]? =some fn)(hb:fn.body=some c)(hres:fn.results= #[])(hnt:∀caps ys,it caps=some ys→1+caps.length≤fn.ntmps)
  (hh:∀l caps ys,it caps=some ys→∀id,(aC fn.ntmps (GE (1+caps.length)) (.fn (.yield l) [] []::caps)).h id=none)
  (hw:∀l caps ys,it caps=some ys→iZ C k call l ys c (some 0) (aC fn.ntmps (GE (1+caps.length)) (.fn (.yield l) [] []::caps)) fun e z _=>(e= .normal∨e= .ret)∧(z=some ys.length∨z=none)):mH C k it:=by
 refine⟨⟨fn,c,hf,hb⟩,fun caps ys hit w0 I cs hcs hI sL l J cq W hW o4 xT hy h0=> ?_⟩
 refine callsIn_of_wp hf hb trivial ?_
 have hvl:=hcs.length
 let vs:List Value:= .func (.yield l) #[] #[]::cs
 let args:List U:= .fn (.yield l) [] []::caps
 have yx:vs.length=args.length:=by simp[vs,args,hvl]
 have afh:=hnt caps ys hit
 have Wa:ak W I aX [] cs caps:=hcs.mono (fun _ h=>h) (fun b hb=>hW b (by rcases hb with h|h<;>first|exact h|cases h)) (fun _ _ h=>h)
 have hargs:ak W I aX [] vs args:=R.cons (f1:=[]) (f2:=[]) (.fn .nil .nil) Wa
 have VH:∀b,I b→b<W.heap.size:=fun b hb=>by
  have :=hW b hb
  rcases GT b W.heap.size with h1|h1
  ·exact h1
  ·rw[Hm h1,Hn (hI b hb)]at this;cases this
 have n8:(GE args.length).map ((⟨vs⟩++Hc (fn.ntmps-(⟨vs⟩:Array Value).size) undef:Array Value).getD · undef)=vs:=by
  apply List.ext_getElem?
  intro k
  rw[List.getElem?_map]
  rcases GT k args.length with hk|hk
  ·rw[List.getElem?_range hk]
   simp only[Option.map_some]
   rw[Array.getD_eq_getD_getElem?,Array.getElem?_append_left (by simpa[yx]using hk)]
   have :k<vs.length:=by omega
   simp[this]
  ·rw[H0 (by simpa using hk),H0 (by omega)]
   rfl
 let E:Env:={w0:=W,dG:=fun _=>False,bZ:=I,m:=W.heap.size,le:=Nat.le_refl _}
 have uZ:aO C E (aC fn.ntmps (GE args.length) args) {tmps:=⟨vs⟩++Hc (fn.ntmps-(⟨vs⟩:Array Value).size) undef,defers:=[]} W:=by
  refine ax.enter (I:=I) (f:=[]) ?_ (gr.nil (d0:=[])) ?_ List.nodup_range Hb (fun b hb=>⟨.inl hb,VH b hb,by simp⟩) (fun b hb=>by cases hb) (Kept.refl W _) (fun g cs hg=> ?_) (fun _ _ _ h=>h) (fun _ _ _ h=>h)
  ·have :args.length=1+caps.length:=by simp[args];omega
   simp[yx];omega
  ·rw[n8];exact hargs
  ·exact(sL g cs hg).mono (fun _ h=>h) (fun b hb=>hW b (by rcases hb with h|h<;>first|exact h|cases h)) (fun _ _ h=>h)
 have hlen:args.length=1+caps.length:=by simp[args];omega
 obtain⟨β,F,hS⟩:=uZ
 have KB:∀id,(aC fn.ntmps (GE args.length) args).h id=none:=by rw[hlen];exact hh l caps ys hit
 have hF:∀id,F id=[]:=fun id=>hS.dead id (by rw[KB];simp)
 have VZ:ku C J cq (some 0) (aC fn.ntmps (GE (1+caps.length)) args) {tmps:=⟨vs⟩++Hc (fn.ntmps-(⟨vs⟩:Array Value).size) undef,defers:=[]} W:=by
  rw[←hlen]
  refine⟨rfl,E,β,F,hS,fun _ h=>h,KB, ?_⟩
  exact o4 _ _ _ _ _ h0 (Kept.refl _ _) fun b hb=>⟨by
   rcases hb.1 with h1|h1|h1
   ·exact .inl h1
   ·exact h1.elim
   ·exact .inr h1,hb.2.1⟩
 refine hw l caps ys hit J cq ⟨hN,cS,o4,xT,hy⟩ _ _ _ VZ ?_
 rintro e z S' a' W'⟨he,hz⟩⟨hd,E',β',F',_,_,_,hj⟩
 have hq:(∃X,J ys.length X W')∨∃i X,cq i X W':=by
  rcases hz with rfl|rfl
  ·exact .inl ⟨_,hj⟩
  ·obtain⟨i,hj⟩:=hj;exact .inr ⟨i,_,hj⟩
 have hr:∃v,(results fn a'.tmps).run C.P W'= .ok v W':=⟨.tuple #[],by simp[results,hres]⟩
 obtain⟨v,hr⟩:=hr
 rcases he with rfl|rfl
 ·exact⟨hd,v,hr,⟨v,rfl⟩,hq⟩
 ·exact⟨hd,v,hr,⟨v,rfl⟩,hq⟩
end Go.Ab
namespace Go.Ab
open Go
/-! ### What it yields -/
def yT{α:Type}(nodes:List α):Nat→List Int→Option (List (Int×α))|_,[]=>some []|j,x::l=>(idx nodes x).bind fun n=>(yT nodes (j+1) l).bind fun r=>some (((j:Int),n)::r)
def yR{α:Type}(c:α→List U)(y:Int×α):List U:=[.val (.int .i64 y.1), .agg (c y.2)]
def AG(n:Int):List U:=[.val (.int .i64 n)]
def yP:Rows→Option (List Int)|[]=>some []|[.val (.int .i64 x)]::l=>(yP l).map (x::·)|_=>none
theorem K6:∀{ks:Rows}{l:List Int},yP ks=some l→ks=l.map AG|[],l,h=>by{simp[yP]at h;subst h;rfl}|r::ks,l,h=>by unfold yP at h;split at h;·{rename_i e;cases e};·{rename_i x l' e;cases e;obtain⟨l2,h1,rfl⟩:=Option.map_eq_some_iff.1 h;rw[K6 h1];rfl};·cases h
def Le(off:Nat)(r:List U):Option (List Int):=match r.drop off with| .sl ks::_=>yP ks|_=>none
def tc(m off:Nat):List U→Option (List (List U))|[.ay [.sl rows], .ay [.val (.int .i64 k)]]=>if(rows.all fun r=>decide (r.length=m)&&r.all U.cell&&c9 r&&cg r)=true then(idx rows k).bind fun r=>(Le off r).bind fun l=>if l.length≤4294967296 then(yT rows 0 l).map (·.map (yR id))else none else none|_=>none
/-! ### The iterator keeps its word -/
theorem Lf{α:Type}{nodes:List α}:∀{l:List Int}{j:Nat}{ys:List (Int×α)},yT nodes j l=some ys→ys.length=l.length∧∀(i:Nat)(x:Int),l[i]? =some x→∃n,idx nodes x=some n∧ys[i]? =some (((j+i:Nat):Int),n)|[],j,ys,h=>by{simp[yT]at h;subst h;exact⟨rfl,fun i x h=>by simp at h⟩}|x::l,j,ys,h=>by simp only[yT,H1,Option.some.injEq]at h;obtain⟨n,h1,r,h2,rfl⟩:=h;obtain⟨g1,g2⟩:=Lf h2;refine⟨by simp[g1],fun i x' hx=> ?_⟩;cases i with|zero=>(simp at hx;subst hx;exact⟨n,h1,by simp⟩)|succ i=>obtain⟨n',k1,k2⟩:=g2 i x' (by simpa using hx);exact⟨n',k1,by rw[List.getElem?_cons_succ,k2];congr 3;omega⟩
def um(g f:Nat→U):Prop:=∀t,f t=g t∨f t= .aK
theorem NY{g:Nat→U}:um g (fun _=> .aK):=fun _=> .inr rfl
theorem mE{g f:Nat→U}{s:Nat}{v:U}(h:um g f)(hs:g s=v:=by exact rfl):um g (ai f s v):=fun t=>by by_cases e:t=s;·{subst e;left;simp[ai,hs]};·simpa[ai,e]using h t
theorem ku.weak{C:av}{J cq:tZ}{z:Option Nat}{a:Act}{W:World}{n:Nat}{t t':Nat→U}{h:Id→Option (Option Rows)}(hw:um t t')(hS:ku C J cq z ⟨n,t,h⟩ a W):ku C J cq z ⟨n,t',h⟩ a W:=by obtain⟨h0,E,β,F,h1,h2,h3,h4⟩:=hS;refine⟨h0,E,β,F,{n:=h1.n,df:=h1.df,slot:=fun u=> ?_,obj:=h1.obj,dead:=h1.dead,nd:=h1.nd,ck:=h1.ck,dom:=h1.dom,lt:=h1.lt,kept:=h1.kept,bM:=h1.bM,ns:=h1.ns,kb:=h1.kb},h2,h3,h4⟩;rcases hw u with e|e;·{simp only[e];exact h1.slot u};·simp only[e];exact .aK
section
variable{C:av}{f:FuncId}{call:eT}{l:Nat}{ys:List (List U)}{z:Option Nat}{Q:Exit→Option Nat→ah→Prop}{c:Code}{n:Nat}{t:Nat→U}{h:Id→Option (Option Rows)}
theorem adq(L:Nat)(rep:Nat→Nat→U)(h0:um t (rep 0))(round:∀j,j≤L→iZ C f call l ys c (some j) ⟨n,rep j,h⟩ fun e z' S'=>match e with| .normal=>j<L∧z'=some (j+1)∧S'.n=n∧S'.h=h∧um S'.t (rep (j+1))|e=>Q e z' S'):iZ C f call l ys (.loop c) (some 0) ⟨n,t,h⟩ Q:=by intro J cq eW a W gD hS hQ;refine Hy (fun m a W=>∃j,j+m=L∧ku C J cq (some j) ⟨n,rep j,h⟩ a W) L ⟨0,by omega,hS.weak h0⟩ ?_;rintro m a W⟨j,hj,hS⟩;refine round j (by omega) J cq eW a W _ hS fun e z' S' a' W' hq jg=> ?_;cases e with|normal=>(obtain⟨h1,rfl,h2,h3,h4⟩:=hq;obtain⟨n',t',h'⟩:=S';simp only at h2 h3 h4;subst h2 h3;exact⟨m-1,by omega,j+1,by omega,jg.weak h4⟩)|_=>exact hQ _ _ _ _ _ hq jg
end
section
variable{C:av}{k:FuncId}{fn:Func}{CU ug oD ue wT PY:TypeId}{m off cK:Nat}{y0 y1 cj bJ cc er bu cZ bg ef dN fB pY zU zV kU ig ij lG nF pZ adm adn ado adp:TypeId}{q7 p1 p2 p3 mz tB B4 B5 aaH aaI aas aat aau aav aaw aax aay aaz aaA aaB aaC aaD aaE aaF aaG:String}{f0 f1 f2 f3 f4 f5 f6 f7 f8 f9 f10 f11 f12 f13 f14 f15 f16 f17 f18 f19 f20 f21 f22 f23 f24:Array Edge}
set_option maxHeartbeats 2000000 in theorem X7 [Fd C CU 0 0 1 false][cu C ug false 1][cy C ug (.slice ue)][cu C ue true m][Fd C ue cK off 1 false][cu C wT false 1][cy C wT (.slice oD)][cu C oD false 1](hm0:Ha off m=true)(hN:iq C)(hf:C.P.funcs[k]? =some fn)(hn:fn.ntmps=28)(hres:fn.results= #[])(hfz:∀t,(C.dB k).contains t=false)(hb:fn.body=some (.seq (.region 0 ⟨[⟨some 6, .fieldAddr CU (.tmp 1) 0,y0,q7,f0,none⟩,⟨some 7, .load ug (.tmp 6),y1,p1,f1,none⟩,⟨some 8, .load oD (.tmp 2),cj,p2,f2,none⟩,⟨some 9, .indexAddr ug (.tmp 7) (.tmp 8),bJ,p3,f3,none⟩,⟨some 10, .fieldAddr ue (.tmp 9) cK,cc,mz,f4,none⟩,⟨some 11, .load wT (.tmp 10),er,tB,f5,none⟩,⟨some 12, .call ⟨.builtin .len,⟨[.tmp 11]⟩,⟨[wT]⟩⟩,bu,B4,f6,none⟩,⟨some 13, .move (.const (.int .i64 0)),cZ,B5,f7,none⟩]⟩ false) (.block 0 (.loop (.seq (.region 1 ⟨[⟨some 14, .binOp .lss oD (.tmp 13) (.tmp 12) oD,bg,aaH,f8,none⟩]⟩ false) (.seq (.cond (.tmp 14) .skip (.exit 0)) (.seq (.block 1 (.seq (.region 2 ⟨[⟨some 15, .move (.tmp 13),ef,aaI,f9,none⟩,⟨some 16, .indexAddr wT (.tmp 11) (.tmp 13),dN,aas,f10,none⟩,⟨some 17, .load oD (.tmp 16),fB,aat,f11,none⟩,⟨some 4, .assign (.tmp 15),pY,aau,f12,none⟩,⟨some 5, .assign (.tmp 17),zU,aav,f13,none⟩]⟩ false) (.seq (.region 3 ⟨[⟨some 18, .move (.tmp 0),zV,aaw,f14,none⟩,⟨some 19, .move (.tmp 4),kU,aax,f15,none⟩,⟨some 20, .fieldAddr CU (.tmp 1) 0,ig,aay,f16,none⟩,⟨some 21, .load ug (.tmp 20),ij,aaz,f17,none⟩,⟨some 22, .move (.tmp 5),lG,aaA,f18,none⟩,⟨some 23, .indexAddr ug (.tmp 21) (.tmp 22),nF,aaB,f19,none⟩,⟨some 24, .load ue (.tmp 23),pZ,aaC,f20,none⟩,⟨some 25, .call ⟨.value (.tmp 18),⟨[.tmp 19, .tmp 24]⟩,⟨[oD,ue]⟩⟩,adm,aaD,f21,none⟩,⟨some 26, .unOp .not PY (.tmp 25),adn,aaE,f22,none⟩]⟩ false) (.cond (.tmp 26) .ret .skip)))) (.region 4 ⟨[⟨some 27, .binOp .add oD (.tmp 13) (.const (.int .i64 1)) oD,ado,aaF,f23,none⟩,⟨some 13, .move (.tmp 27),adp,aaG,f24,none⟩]⟩ false)))))))):mH C k (tc m off):=by have hm:off<m:=of_decide_eq_true (jP hm0);refine XY (call:=fun _ _=>none) hN (fun _ _ _ h=>by cases h) hf hb hres ?_ ?_ ?_;·{intro caps ys h;unfold tc at h;split at h;·{simp[hn]};·cases h};·{intro l caps ys h id;unfold tc at h;split at h;·{rfl};·cases h};intro l caps ys h;rw[hn];unfold tc at h;split at h;(case h_2=>cases h);rename_i rows k0;split at h;(case isFalse=>cases h);rename_i hall;obtain⟨q,rfl⟩:∃q:List (dz m),rows=q.map dz.v:=by{refine⟨rows.attachWith _ (fun r hr=>List.all_eq_true.1 hall r hr), ?_⟩;exact(List.attachWith_map_subtype_val _).symm};clear hall;simp only[H1]at h;obtain⟨abi,h1,ks,h2,h3⟩:=h;split at h3;(case isFalse=>cases h3);rename_i hbd;obtain⟨HB,h4,rfl⟩:=Option.map_eq_some_iff.1 h3;obtain⟨dQ,vi,rfl⟩:∃dQ,idx q k0=some dQ∧abi=dQ.v:=by{have hb:=yE h1;obtain⟨dQ,hr⟩:∃dQ,q[k0.toNat]? =some dQ:=⟨_,List.getElem?_eq_getElem (by simp at hb;omega)⟩;have:idx q k0=some dQ:=by{unfold idx;rw[AC hb.1,hr]};refine⟨dQ,this, ?_⟩;rw[Fg this]at h1;exact(Option.some.inj h1).symm};obtain⟨rs,We⟩:∃rs,dQ.v.drop off= .sl (ks.map AG)::rs:=by{unfold Le at h2;split at h2;·{rename_i ks' rs e;rw[K6 h2]at e;exact⟨rs,e⟩};·cases h2};have hlen:∀r:dz m,r.v.length=m:=fun r=>(uH r).1;have hle:∀r:dz m,Nat.ble off r.v.length=true:=fun r=>Nat.ble_eq_true_of_le (by rw[hlen];omega);have ya:Ha 0 m=true:=by{simp[Ha];omega};obtain⟨U5,gg⟩:=Lf h4;have Xw:(HB.map (yR id)).length=ks.length:=by{simp[U5]};rw[Xw];let st:Nat→Nat→U:=fun j=>ai (ai (ai (ai (ai (ai (fun _=> .aK) 0 (.fn (.yield l) [] [])) 1 (.ay [.sl (q.map dz.v)])) 2 (.ay [.val (.int .i64 k0)])) 11 (.sl (ks.map AG))) 12 (.val (.int .i64 ks.length))) 13 (.val (.int .i64 (j:Int)));show iZ C k (fun _ _=>none) l (HB.map (yR id)) _ (some 0) ⟨28,ai (ai (ai (fun _=> .aK) 2 (.ay [.val (.int .i64 k0)])) 1 (.ay [.sl (q.map dz.v)])) 0 (.fn (.yield l) [] []),fun _=>none⟩ _;refine CE<|fS (aN (C:=C) (hz:=hfz _))<|fS aB<|fS aB<|fS (e7 vi (h0:=ya) (hr:=hlen _))<|fS (aN (hl:=hle _) (hz:=hfz _))<|fS (aB (hv:=We))<|fS dJ<|fS aa<|wM<|Oa<|adq ks.length st ?_ ?_;·{exact mE (mE (mE (mE (mE (mE NY)))))};intro j hj;refine CE<|fS (eF (a:=(j:Int)) (b:=(ks.length:Int)))<|wM ?_;rcases GT j ks.length with hlt|hge;·{have hd:decide ((j:Int)<(ks.length:Int))=true:=by{simp;omega};obtain⟨x,hx⟩:∃x,ks[j]? =some x:=⟨_,List.getElem?_eq_getElem hlt⟩;have WE:idx ks (j:Int)=some x:=by{unfold idx;rw[AC (by omega)];simpa using hx};obtain⟨nd,hnd,hy⟩:=gg j x hx;obtain⟨nd,lg,rfl⟩:∃r,idx q x=some r∧nd=r.v:=by{have hb:=yE hnd;obtain⟨r,hr⟩:∃r,q[x.toNat]? =some r:=⟨_,List.getElem?_eq_getElem (by simp at hb;omega)⟩;have:idx q x=some r:=by{unfold idx;rw[AC hb.1,hr]};refine⟨r,this, ?_⟩;rw[Fg this]at hnd;exact(Option.some.inj hnd).symm};have XB:(HB.map (yR id))[j]? =some [.val (.int .i64 (j:Int)), .agg nd.v]:=by{rw[List.getElem?_map,hy];simp[yR]};have htk:nd.v.take m=nd.v:=List.take_of_length_le (by rw[hlen];omega);refine CD (CC (bb:=true) (by rw[←hd];rfl) (Oc ?_));refine CD (Oa ?_);refine CE<|fS aa<|fS (e7 (c:=AG) WE)<|fS aB<|fS af<|fS af<|wM ?_;refine CE<|fS (aa (v:= .fn (.yield l) [] []) (h:=rfl))<|fS aa<|fS (aN (hz:=hfz _))<|fS aB<|fS aa<|fS (e7 lg (h0:=ya) (hr:=hlen _))<|fS (ey (hl:=Nat.ble_eq_true_of_le (by rw[hlen];omega)) (hv:=htk))<|adu rfl XB rfl ?_ ?_ ?_;·{have:=(uH nd).2.2.1;simp[c9,en,this]};·{refine fS fG<|wM<|CC (bb:=false) rfl (Oc ?_);have hw:(IntKind.i64.wrap ((j:Int)+1))=((j+1:Nat):Int):=by{simp only[IntKind.wrap,IntKind.bits,IntKind.signed];simp;split<;>omega};refine Ob<|fS ew<|fS aa<|wM ⟨hlt,rfl,rfl,rfl, ?_⟩;exact mE (mE (mE (mE (mE (mE NY))))) (by show U.val (.int .i64 (IntKind.i64.wrap ((j:Int)+1)))=_;rw[hw])};·exact fS fG<|wM<|CC (bb:=true) rfl (ads ⟨.inr rfl, .inr rfl⟩)};·have hd:decide ((j:Int)<(ks.length:Int))=false:=by{simp;omega};refine CD (CC (bb:=false) (by rw[←hd];rfl) (adr ?_));obtain rfl:j=ks.length:=by{omega};exact⟨.inl rfl, .inl rfl⟩
end
end Go.Ab
namespace Go.Ab
open Go
def kz(P:Program)(bM:Nat→Option (List U)):av:={P:=P,bM:=bM,ext:=fun _=>none,bR:=fun _=>[],dB:=fun _=>[],live:=fun _ _=>[],jb:=fun _ _=>[]}
theorem Rw{P:Program}{bM:Nat→Option (List U)}(h:mI P):iq (kz P bM):=⟨h,(fun k p(h:(none:Option (Nat×Nat))=some p)=>by cases h),(fun k(h:false=true)=>by cases h)⟩
theorem Rx{P:Program}{bM:Nat→Option (List U)}:nI (kz P bM):=⟨(fun f i b l(h:(none:Option (Bool×List Nat))=some (b,l))=>by cases h),(fun f i b l(h:(none:Option (Bool×List Nat))=some (b,l))=>by cases h),(fun f i b l(h:(none:Option (Bool×List Nat))=some (b,l))=>by cases h)⟩
theorem YA{C:av}{k:FuncId}{fn:Func}{c:Code}(VV:mI C.P)(hw:C.P.follows .mixedOrders=true)(hf:C.P.funcs[k]? =some fn)(hb:fn.body=some c)(hok:lB (kz C.P C.bM) k c=true)(hle:C.bR k=[])(h:∀{us:List Value}{i c:Int}{cells:List U}{ks:Rows}{u:Value},(∀u∈us,dc u=true)→cells[4]? =some (.sl ks)→ks[i.toNat]? =some [.val (.int .i64 c)]→us[c.toNat]? =some u→0≤i→0≤c→den (kz C.P C.bM) 1 k [.val (.int .i64 i), .ay [.sl (us.map fun u=>[.val u])], .ay cells]=some (.val u,[])):uc C k:=by intro w bZ vs us i c cells ks u lp hargs h4 hk hu hi hc hI hg;have hs:Sound (kz C.P C.bM) k [.val (.int .i64 i), .ay [.sl (us.map fun u=>[.val u])], .ay cells] (.val u,[]):=Ma (Rw VV) hw (fun _ _=>eA.nil) Rx (fun k it(h:(none:Option (List U→Option (List (List U))))=some it)=>by cases h) (fun k(h:false=true)=>by cases h) (fun g a r(h:(none:Option (List U→Option (U×List U)))=some g)=>by cases h) (fun fn' c' _ h1 h2=>by have h1:C.P.funcs[k]? =some fn':=h1;rw[hf]at h1;obtain rfl:=H2 h1;rw[hb]at h2;obtain rfl:=H2 h2;exact hok) (call:=den (kz C.P C.bM) 0) (fun k as r(h:(none:Option (U×List U))=some r)=>by cases h) vz (h lp h4 hk hu hi hc);have:=hs.1 rfl w bZ [] vs hargs Hb (fun b hb=>⟨hI b hb,by simp⟩) (fun b hb=>by cases hb) hg;have post:∀v w',rR w [] bZ (og ((kz C.P C.bM).bR k) vs) (.val u,[]) v w'→v=u∧Kept w w' (fun _=>False):=fun v w' hr=>by{obtain⟨I',fr,g1,_,_,_⟩:=hr.ex;obtain⟨f1,f2,v1,vs',_,e1,k1,_⟩:=ak.cons_inv g1;simp only[List.cons.injEq]at e1;obtain⟨rfl,_⟩:=e1;exact⟨k1.e3.2,⟨hr.kept.size,fun b hb _=>hr.kept.blk b hb (by simp),hr.kept.os,hr.kept.out,hr.kept.dB,hr.kept.kg⟩⟩};rcases this with⟨fn',c',q1,dj,ez⟩|⟨v,w',q1,dj⟩;·{exact .inl ⟨fn',c',q1,dj,ez.mono fun e w' hh=>by obtain⟨v,rfl,hr⟩:=hh;exact⟨v,rfl,post v w' hr⟩⟩};·exact .inr ⟨v,w',q1,post v w' dj⟩
end Go.Ab
