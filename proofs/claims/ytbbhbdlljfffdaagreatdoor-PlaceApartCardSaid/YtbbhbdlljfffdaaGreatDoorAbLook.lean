import Derived.Test.YtbbhbdlljfffdaaGreatDoorAbV14
import Derived.Test.YtbbhbdlljfffdaaGreatDoorAbClone
open Array renaming replicate→Hd,getElem?_eq_none→Hn,getElem?_eq_getElem→H0
open List renaming range→GE,nodup_nil→Hc,length_cons→Hk,range'_succ→Hm,getElem?_eq_none→H2
open Nat renaming lt_or_ge→GT,blt→Ha
open Option renaming bind_eq_some_iff→Hb,map_some→H1,bind_some→H4
open Option.some renaming injEq→H3,inj→H5
set_option linter.all false
namespace Go.Ab
open Go
abbrev yU:=Nat→(Nat→Prop)→World→Prop
def yT(J:yU):Prop:=∀i X Y W W',J i X W→Kept W W' (fun _=>False)→(∀b,Y b→(X b∨W.heap.size≤b)∧b<W'.heap.size)→J i Y W'
def EN(J dn:yU):Option Nat→(Nat→Prop)→World→Prop|some i,X,W=>J i X W|none,X,W=>∃i,dn i X W
def nC(C:aL)(J dn:yU)(z:Option Nat)(S:ah)(a:Act)(W:World):Prop:=a.defers=[]∧∃E β F,aP C E W S a β F∧(∀b,¬E.e7 b)∧(∀id,S.h id=none)∧EN J dn z (aD E W F) W
/-! ### Operations that defer nothing -/
def DW:Op→Bool| .move _| .assign _| .load _ _| .fieldAddr _ _ _| .indexAddr _ _ _| .binOp _ _ _ _ _| .unOp _ _ _| .field _ _ _| .extract _ _| .box _ _| .alloc _| .build _ _=>true| .call c=>(match c.callee with| .builtin .len=>true|_=>false)|_=>false
theorem Uo{P:Program}{w w':World}{s:Sem Value}{d:Deferred}:(do pure (Next.value (←s)):Sem Next).run P w≠ .ok (.defer d) w':=by intro h;rw[Sem.run_bind]at h;cases hs:s.run P w with|ok v w1=>(rw[hs]at h;simp at h)|halt x w1=>rw[hs]at h;cases h
theorem ai0{P:Program}{ρ:Operand→Value}{o:Oper}{w w':World}{d:Deferred}(hp:DW o.op=true):(execOp ρ o).run P w≠ .ok (.defer d) w':=by
 unfold DW at hp
 split at hp
 all_goals try(rename_i ho;unfold execOp;rw[ho];exact Uo)
 ·rename_i ho;unfold execOp;rw[ho];intro h;cases h
 ·rename_i ho;unfold execOp;rw[ho];intro h;cases h
 ·rename_i c ho
  split at hp
  ·rename_i hc
   have e:execOp ρ o=builtin .len c.argTypes o.type (c.args.map fun| .const _=>true|_=>false) (c.args.map ρ):=by
    unfold execOp;rw[ho];simp only[resolve,hc];rfl
   rw[e]
   exact Uo
  ·cases hp
 ·cases hp
theorem aiZ{o:Oper}(hp:DW o.op=true)(c:Call):o.op≠ .defer c:=fun e=>by rw[e]at hp;cases hp
section
variable{C:aL}{f:FuncId}{call:gd}{J dn:yU}{z:Option Nat}{S:ah}{a:Act}{W w:World}
theorem ak8{P:Program}{o:Oper}{next next':Act→World→Prop}{Q:Exit→Act→World→Prop}(hp:DW o.op=true)(h:o.wp P a w next Q)(hn:∀w' v,next (a.put o.dst v) w'→next' (a.put o.dst v) w'):o.wpIn Fence.wide 0 P a w next' Q:=by refine⟨fun f _=>EJ none f, ?_⟩;rw[Oper.semAt_eq _ _ _ (aiZ hp)];unfold Oper.wp at h;have hnd:∀d w',(execOp a.eval o).run P w≠ .ok (.defer d) w':=fun d w'=>ai0 hp;generalize(execOp a.eval o).run P w=r at*;cases r with|ok x w'=>(cases x with|value v=>(exact hn _ v h)|skip=>(exact hn _ undef h)|defer d=>(exact absurd rfl (hnd d w'))|enter f args=>(exact⟨yQ none,OL (ro:=none) (h.mono fun e w'' he=>by cases e<;>first|exact hn _ _ he|exact he)⟩)|row row args=>(exact⟨yQ none,Ua (ro:=none) (h.mono fun v w'' he=>hn _ _ he)⟩)|round l f tmps assign body=>(exact h.elim)|_=>exact h)|halt x w'=>cases x<;>exact h
theorem nC.start(sZ:yT J)(Ct:yT dn)(h:nC C J dn z S a W):a.defers=[]∧∃E β F,aP C E W S a β F∧E.w0=W∧(∀b,¬E.e7 b)∧(∀id,F id=[])∧(∀id,S.h id=none)∧EN J dn z (aD E W F) W:=by obtain⟨h0,E,β,F,h1,h2,h3,h4⟩:=h;have hF:∀id,F id=[]:=fun id=>h1.dead id (by rw[h3];simp);refine⟨h0,E.at W F,β,F,h1.Hq,rfl,fun b hb=> ?_,hF,h3, ?_⟩;·{obtain⟨id,hm⟩:=hb;rw[hF]at hm;cases hm};·have key:∀b,aD (E.at W F) W F b→(aD E W F b∨W.heap.size≤b)∧b<W.heap.size:=fun b hb=>⟨.inl (Nk.1 hb),hb.2.1⟩;cases z with|some i=>(exact sZ _ _ _ _ _ h4 (Kept.refl _ _) key)|none=>obtain⟨i,h4⟩:=h4;exact⟨i,Ct _ _ _ _ _ h4 (Kept.refl _ _) key⟩
theorem nC.fin{E:Env}{F:Id→List Nat}(sZ:yT J)(Ct:yT dn)(h0:E.w0=W)(hE:∀b,¬E.e7 b)(hF:∀id,F id=[])(hj:EN J dn z (aD E W F) W){S':ah}{a':Act}{w':World}(hS:bD C E S' a' w')(hh:∀id,S'.h id=none)(hd:a'.defers=[]):nC C J dn z S' a' w':=by subst h0;obtain⟨β',F',h'⟩:=hS;have hk:Kept E.w0 w' (fun _=>False):=⟨h'.kept.size,fun b h1 _=>h'.kept.blk b h1 (hE b),h'.kept.os,h'.kept.out,h'.kept.eF,h'.kept.nk⟩;have key:∀b,aD E w' F' b→(aD E E.w0 F b∨E.w0.heap.size≤b)∧b<w'.heap.size:=fun b hb=>⟨by rcases GT b E.w0.heap.size with h|h;·{refine .inl ⟨?_,h,fun id hm=>by rw[hF]at hm;cases hm⟩;rcases hb.1 with h1|h1|h1;·{exact .inl h1};·{exact absurd h1 (hE b)};·omega};·exact .inr h,hb.2.1⟩;refine⟨hd,E,β',F',h',hE,hh, ?_⟩;cases z with|some i=>(exact sZ _ _ _ _ _ hj hk key)|none=>obtain⟨i,hj⟩:=hj;exact⟨i,Ct _ _ _ _ _ hj hk key⟩
/-! ### The walk -/
structure Oa(C:aL)(call:gd)(l:Nat)(ys:List (List U))(J dn:yU):Prop where
 n:kq C
 calls:∀k as r,call k as=some r→Sound C k as r
 j:yT J
 Gz:yT dn
 y:∀i X W vs y,J i X W→ys[i]? =some y→av W X b8 [] vs y→YieldAt Fence.wide 0 C.P l ⟨vs⟩ W fun e W'=>((e= .returned (.bool true)∧J (i+1) X W')∨(e= .returned (.bool false)∧dn (i+1) X W'))∧∀b,X b→W'.heap[b]? =W.heap[b]?
def lp(C:aL)(f:FuncId)(call:gd)(l:Nat)(ys:List (List U))(c:Code)(z:Option Nat)(S:ah)(Q:Exit→Option Nat→ah→Prop):Prop:=∀J dn,Oa C call l ys J dn→∀a W jK,nC C J dn z S a W→(∀e z' S' a' W',Q e z' S'→nC C J dn z' S' a' W'→jK e a' W')→c.wpIn Fence.wide 0 C.P jK a W
def sG(C:aL)(f:FuncId)(call:gd)(l:Nat)(ys:List (List U))(ops:Array Oper)(i:Nat)(os:List Oper)(z:Option Nat)(S:ah)(Q:Option Nat→ah→Prop):Prop:=(∀j,os[j]? =ops[i+j]?)→∀J dn,Oa C call l ys J dn→∀a W jK,nC C J dn z S a W→(∀z' S' a' W',Q z' S'→nC C J dn z' S' a' W'→jK .normal a' W')→wpOpsIn Fence.wide 0 C.P ops jK (List.range' i os.length) a W
end
section
variable{C:aL}{f:FuncId}{call:gd}{l:Nat}{ys:List (List U)}{z:Option Nat}{S:ah}{Q:Exit→Option Nat→ah→Prop}{c b:Code}{ops:Array Oper}{i n d:Nat}{os:List Oper}{K:Option Nat→ah→Prop}
variable{t:Nat→U}{h:Id→Option (Option Rows)}{op:Op}{ty:TypeId}{pos:String}{aZ:Array Edge}{v:U}
theorem Bs(k:K z S):sG C f call l ys ops i [] z S K:=fun _ J dn _ a W jK hS hQ=>hQ _ _ _ _ k hS
theorem iC(he:bw C f call ⟨n,t,h⟩ true ⟨some d,op,ty,pos,aZ,none⟩=some ⟨[(d,v)],[],[]⟩)(k:sG C f call l ys ops (i+1) os z ⟨n,an t d v,h⟩ K)(hs:Ha d n=true:=by exact rfl)(hp:DW op=true:=by exact rfl):sG C f call l ys ops i (⟨some d,op,ty,pos,aZ,none⟩::os) z ⟨n,t,h⟩ K:=by intro hl J dn gA a W jK hS hQ;have h0:ops[i]? =some ⟨some d,op,ty,pos,aZ,none⟩:=by{simpa using(hl 0).symm};obtain⟨g0,E,β,F,g1,g2,g3,g4,g5,g6⟩:=hS.start gA.j gA.Gz;rw[Hk,Hm,wpOpsIn_cons];unfold wpOpIn;simp only[h0];have hw:Region.wanted (⟨some d,op,ty,pos,aZ,none⟩:Oper) (yielded ops a.tmps)=true:=rfl;rw[AC hw];have hlt:d<n:=of_decide_eq_true (lq hs);refine ak8 hp (GZ (next:=bD C E ⟨n,an t d v,h⟩) gA.n gA.calls g1 he (by simp[cH,hlt]) fun a' w' hx=>hx) fun w' u hx=> ?_;exact k (fun j=>by have:=hl (j+1);simpa[Nat.add_assoc,Nat.add_comm 1 j]using this) J dn gA _ _ jK (nC.fin (E:=E) (F:=F) gA.j gA.Gz g2 g3 g4 g6 hx g5 (by rw[put_defers];exact g0)) hQ
theorem alh{cN:Operand}{xs:List Operand}{ts:Array TypeId}{k:Nat}{y:List U}(hfo:un true ((⟨n,t,h⟩:ah).get C cN)= .fn (.yield l) [] [])(hy:ys[k]? =some y)(hxs:(xs.map fun x=>un true ((⟨n,t,h⟩:ah).get C x))=y)(hi:eu y=true)(k1:sG C f call l ys ops (i+1) os (some (k+1)) ⟨n,an t d (.val (.bool true)),h⟩ K)(k2:sG C f call l ys ops (i+1) os none ⟨n,an t d (.val (.bool false)),h⟩ K)(hs:Ha d n=true:=by exact rfl):sG C f call l ys ops i (⟨some d, .call ⟨.value cN,⟨xs⟩,ts⟩,ty,pos,aZ,none⟩::os) (some k) ⟨n,t,h⟩ K:=by intro hl J dn gA a W jK hS hQ;have h0:ops[i]? =some ⟨some d, .call ⟨.value cN,⟨xs⟩,ts⟩,ty,pos,aZ,none⟩:=by{simpa using(hl 0).symm};obtain⟨g0,E,β,F,g1,g2,g3,g4,g5,g6⟩:=hS.start gA.j gA.Gz;have hlt:d<n:=of_decide_eq_true (lq hs);have lN:=g1.dY cN;rw[hfo]at lN;obtain⟨_,v1,v2,lN,r1,r2⟩:=lN.pI;obtain⟨_,rfl⟩:=r1.gj;obtain⟨_,rfl⟩:=r2.gj;have hargs:=av.ofMap g1 xs;rw[hxs]at hargs;have adC:av W (aD E W F) b8 [] (xs.map a.eval) y:=av.nR hargs hi;obtain⟨fn,tmps,assign,body,hrun,hR⟩:=gA.y k _ W _ y g6 hy adC;rw[Hk,Hm,wpOpsIn_cons];unfold wpOpIn;simp only[h0];have hw:Region.wanted (⟨some d, .call ⟨.value cN,⟨xs⟩,ts⟩,ty,pos,aZ,none⟩:Oper) (yielded ops a.tmps)=true:=rfl;rw[AC hw];refine⟨fun f _=>EJ none f, ?_⟩;rw[Oper.semAt_eq _ _ _ (fun c e=>by cases e)];have hex:(execOp a.eval (⟨some d, .call ⟨.value cN,⟨xs⟩,ts⟩,ty,pos,aZ,none⟩:Oper)).run C.P W= .ok (.round l fn tmps assign body) W:=by{have e1:(⟨xs⟩:Array Operand).map a.eval=⟨xs.map a.eval⟩:=by{apply Array.ext';simp};simp only[execOp,resolve,lN];rw[e1];simpa[invoke,go_sem]using hrun};rw[hex,Oper.uponIn_round];refine⟨yQ none,hR.mono ?_⟩;have fin:∀(z':Option Nat)(bb:Bool)(W':World),(EN J dn z' (aD E W F) W')→(∀b,aD E W F b→W'.heap[b]? =W.heap[b]?)→sG C f call l ys ops (i+1) os z' ⟨n,an t d (.val (.bool bb)),h⟩ K→wpOpsIn Fence.wide 0 C.P ops jK (List.range' (i+1) os.length) (a.put (some d) (.bool bb)) W':=by{intro z' bb W' hj hb kk;have rR:∀b,aD E W F b→b<W'.heap.size:=fun b hb'=>by{have:=hb b hb';rcases GT b W'.heap.size with h1|h1;·{exact h1};·rw[Hn h1,H0 hb'.2.1]at this;cases this};have zZ:∀(id:Id)(b:Nat),b∉F id:=fun id b hm=>by{rw[g4]at hm;cases hm};let E':Env:={w0:=W',e7:=fun _=>False,cR:=aD E W F,m:=0,le:=Nat.zero_le _};have oz:∀b,aD E W F b→aD E' W' F b:=fun b hb'=>⟨.inl hb',rR b hb',fun id=>zZ id b⟩;refine kk (fun j=>by have:=hl (j+1);simpa[Nat.add_assoc,Nat.add_comm 1 j]using this) J dn gA _ _ jK ⟨by rw[put_defers];exact g0,E',β,F, ?_,fun _ h=>h,g5, ?_⟩ hQ;·{refine{n:=(by rw[tI];exact g1.n),df:=(by rw[put_defers,g0];exact jn.nil (d0:=[])),slot:=fun t'=> ?_,obj:=fun id rows hr=>(by rw[g5]at hr;cases hr),dead:=fun id _=>g4 id,nd:=fun id=>(by rw[g4];exact Hc),dc:=fun i j b hm=>absurd hm (zZ i b),dom:=g1.dom,lt:=fun id b hm=>absurd hm (zZ id b),kept:=Kept.refl _ _,cD:=fun g cs hg=>(g1.cD g cs hg).mono oz (fun b hb'=>hb b (by rcases hb' with h1|h1<;>first|exact h1|cases h1)) (fun _ _ h=>h),ns:=fun _ _ _ h=>h,kb:=fun _ _ h=>h.elim};rw[tH a d t' _ (by rw[g1.n];exact hlt)];by_cases e:t'=d;·{subst e;simp only[if_true,an];exact .val rfl};·simp only[Do e,an];exact(g1.slot t').mono oz (fun b hb'=>hb b (by rcases hb' with h1|h1<;>first|exact h1|cases h1)) (fun _ _ h=>h)};·have key:∀b,aD E' W' F b→(aD E W F b∨W'.heap.size≤b)∧b<W'.heap.size:=fun b hb'=>⟨by rcases hb'.1 with h1|h1|h1;·{exact .inl h1};·{exact h1.elim};·exact .inr h1,hb'.2.1⟩;cases z' with|some i=>(exact gA.j _ _ _ _ _ hj (Kept.refl _ _) key)|none=>obtain⟨i,hj⟩:=hj;exact⟨i,gA.Gz _ _ _ _ _ hj (Kept.refl _ _) key⟩};rintro e W'⟨⟨rfl,hj⟩|⟨rfl,hj⟩,hb⟩;·{exact fin (some (k+1)) true W' hj hb k1};·exact fin none false W' ⟨_,hj⟩ hb k2
theorem Vc{id:Nat}(k:sG C f call l ys ⟨os⟩ 0 os z S fun z' S'=>Q .normal z' S'):lp C f call l ys (.region id ⟨os⟩ false) z S Q:=fun J dn gA a W jK hS hQ=>by refine wpIn_region ?_;have:=k (fun j=>by simp) J dn gA a W jK hS (fun z' S' a' W' hq=>hQ _ _ _ _ _ hq);simpa[List.range_eq_range']using this
theorem HN{a:Code}(k:lp C f call l ys a z S fun e z' S'=>match e with| .normal=>lp C f call l ys b z' S' Q|e=>Q e z' S'):lp C f call l ys (.seq a b) z S Q:=fun J dn gA ac W jK hS hQ=>by refine wpIn_seq (k J dn gA ac W _ hS fun e z' S' a' W' hq lK=> ?_);cases e with|normal=>(exact hq J dn gA _ _ _ lK hQ)|_=>exact hQ _ _ _ _ _ hq lK
theorem HO{id:Nat}(k:sG C f call l ys ⟨os⟩ 0 os z S fun z' S'=>lp C f call l ys b z' S' Q):lp C f call l ys (.seq (.region id ⟨os⟩ false) b) z S Q:=HN (Vc k)
theorem Vd(k:Q .normal z S):lp C f call l ys .skip z S Q:=fun J dn gA a W jK hS hQ=>wpIn_skip (hQ _ _ _ _ _ k hS)
theorem alf(k:Q .ret z S):lp C f call l ys .ret z S Q:=fun J dn gA a W jK hS hQ=>wpIn_ret (hQ _ _ _ _ _ k hS)
theorem ale{j:Nat}(k:Q (.exit j) z S):lp C f call l ys (.exit j) z S Q:=fun J dn gA a W jK hS hQ=>wpIn_exit (hQ _ _ _ _ _ k hS)
theorem HM{x:Operand}{bb:Bool}{c1 c2:Code}(hx:un true (S.get C x)= .val (.bool bb))(k:lp C f call l ys (if bb then c1 else c2) z S Q):lp C f call l ys (.cond x c1 c2) z S Q:=fun J dn gA a W jK hS hQ=>by have hv:a.eval x= .bool bb:=by{obtain⟨_,E,β,F,g1,_⟩:=hS;have:=g1.dY x;rw[hx]at this;exact this.gE.2};exact wpIn_cond hv (by have:=k J dn gA a W jK hS hQ;cases bb<;>exact this)
theorem Vb{j:Nat}(k:lp C f call l ys c z S fun e z' S'=>Q (match e with| .exit i=>if i=j then .normal else .exit i|e=>e) z' S'):lp C f call l ys (.block j c) z S Q:=fun J dn gA a W jK hS hQ=>by refine wpIn_block (k J dn gA a W _ hS fun e z' S' a' W' hq lK=> ?_);cases e with|exit i=>(simp only[Exit.inBlock];simp only at hq;split at hq;·{rename_i e;subst e;simpa using hQ _ _ _ _ _ hq lK};·rename_i e;simpa[e]using hQ _ _ _ _ _ hq lK)|_=>exact hQ _ _ _ _ _ hq lK
end
theorem afF{C:aL}{k:FuncId}{fn:Func}{c:Code}{call:gd}{it:List U→Option (List (List U))}(hN:kq C)(ek:∀k as r,call k as=some r→Sound C k as r)(hf:C.P.funcs[k]? =some fn)(hb:fn.body=some c)(hres:fn.results= #[])(hnt:∀caps ys,it caps=some ys→1+caps.length≤fn.ntmps)
  (hh:∀l caps ys,it caps=some ys→∀id,(aJ fn.ntmps (GE (1+caps.length)) (.fn (.yield l) [] []::caps)).h id=none)
  (hw:∀l caps ys,it caps=some ys→lp C k call l ys c (some 0) (aJ fn.ntmps (GE (1+caps.length)) (.fn (.yield l) [] []::caps)) fun e z _=>(e= .normal∨e= .ret)∧(z=some ys.length∨z=none)):qc C k it:=by
 refine⟨⟨fn,c,hf,hb⟩,fun caps ys hit w0 I cs hcs hI uJ l J dn W hW sZ Ct hy h0=> ?_⟩
 refine callsIn_of_wp hf hb trivial ?_
 have hvl:=hcs.length
 let vs:List Value:= .func (.yield l) #[] #[]::cs
 let args:List U:= .fn (.yield l) [] []::caps
 have CZ:vs.length=args.length:=by simp[vs,args,hvl]
 have am7:=hnt caps ys hit
 have adM:av W I b8 [] cs caps:=hcs.mono (fun _ h=>h) (fun b hb=>hW b (by rcases hb with h|h<;>first|exact h|cases h)) (fun _ _ h=>h)
 have hargs:av W I b8 [] vs args:=R.cons (f1:=[]) (f2:=[]) (.fn .nil .nil) adM
 have ada:∀b,I b→b<W.heap.size:=fun b hb=>by
  have :=hW b hb
  rcases GT b W.heap.size with h1|h1
  ·exact h1
  ·rw[Hn h1,H0 (hI b hb)]at this;cases this
 have rV:(GE args.length).map ((⟨vs⟩++Hd (fn.ntmps-(⟨vs⟩:Array Value).size) undef:Array Value).getD · undef)=vs:=by
  apply List.ext_getElem?
  intro k
  rw[List.getElem?_map]
  rcases GT k args.length with hk|hk
  ·rw[List.getElem?_range hk]
   simp only[H1]
   rw[Array.getD_eq_getD_getElem?,Array.getElem?_append_left (by simpa[CZ]using hk)]
   have :k<vs.length:=by omega
   simp[this]
  ·rw[H2 (by simpa using hk),H2 (by omega)]
   rfl
 let E:Env:={w0:=W,e7:=fun _=>False,cR:=I,m:=W.heap.size,le:=Nat.le_refl _}
 have zT:bD C E (aJ fn.ntmps (GE args.length) args) {tmps:=⟨vs⟩++Hd (fn.ntmps-(⟨vs⟩:Array Value).size) undef,defers:=[]} W:=by
  refine aP.enter (I:=I) (f:=[]) ?_ (jn.nil (d0:=[])) ?_ List.nodup_range Hc (fun b hb=>⟨.inl hb,ada b hb,by simp⟩) (fun b hb=>by cases hb) (Kept.refl W _) (fun g cs hg=> ?_) (fun _ _ _ h=>h) (fun _ _ _ h=>h)
  ·have :args.length=1+caps.length:=by simp[args];omega
   simp[CZ];omega
  ·rw[rV];exact hargs
  ·exact(uJ g cs hg).mono (fun _ h=>h) (fun b hb=>hW b (by rcases hb with h|h<;>first|exact h|cases h)) (fun _ _ h=>h)
 have hlen:args.length=1+caps.length:=by simp[args];omega
 obtain⟨β,F,hS⟩:=zT
 have QZ:∀id,(aJ fn.ntmps (GE args.length) args).h id=none:=by rw[hlen];exact hh l caps ys hit
 have hF:∀id,F id=[]:=fun id=>hS.dead id (by rw[QZ];simp)
 have ady:nC C J dn (some 0) (aJ fn.ntmps (GE (1+caps.length)) args) {tmps:=⟨vs⟩++Hd (fn.ntmps-(⟨vs⟩:Array Value).size) undef,defers:=[]} W:=by
  rw[←hlen]
  refine⟨rfl,E,β,F,hS,fun _ h=>h,QZ, ?_⟩
  exact sZ _ _ _ _ _ h0 (Kept.refl _ _) fun b hb=>⟨by
   rcases hb.1 with h1|h1|h1
   ·exact .inl h1
   ·exact h1.elim
   ·exact .inr h1,hb.2.1⟩
 refine hw l caps ys hit J dn ⟨hN,ek,sZ,Ct,hy⟩ _ _ _ ady ?_
 rintro e z S' a' W'⟨he,hz⟩⟨hd,E',β',F',_,_,_,hj⟩
 have hq:(∃X,J ys.length X W')∨∃i X,dn i X W':=by
  rcases hz with rfl|rfl
  ·exact .inl ⟨_,hj⟩
  ·obtain⟨i,hj⟩:=hj;exact .inr ⟨i,_,hj⟩
 have hr:∃v,(results fn a'.tmps).run C.P W'= .ok v W':=⟨.tuple #[],by simp[results,hres]⟩
 obtain⟨v,hr⟩:=hr
 rcases he with rfl|rfl
 ·exact⟨hd,v,hr,⟨v,rfl⟩,hq⟩
 ·exact⟨hd,v,hr,⟨v,rfl⟩,hq⟩
end Go.Ab
namespace Go.Ab
open Go
/-! ### What it yields -/
def iM{α:Type}(nodes:List α):Nat→List Int→Option (List (Int×α))|_,[]=>some []|j,x::l=>(idx nodes x).bind fun n=>(iM nodes (j+1) l).bind fun r=>some (((j:Int),n)::r)
def iN{α:Type}(kids:α→List Int)(nodes:List α)(k:Int):Option (List (Int×α)):=(idx nodes k).bind fun n=>if(kids n).length≤4294967296 then iM nodes 0 (kids n)else none
def nT{α:Type}(c:α→List U)(y:Int×α):List U:=[.val (.int .i64 y.1), .agg (c y.2)]
def um(n:Int):List U:=[.val (.int .i64 n)]
def xG:Rows→Option (List Int)|[]=>some []|[.val (.int .i64 x)]::l=>(xG l).map (x::·)|_=>none
theorem RC:∀{ks:Rows}{l:List Int},xG ks=some l→ks=l.map um|[],l,h=>by{simp[xG]at h;subst h;rfl}|r::ks,l,h=>by unfold xG at h;split at h;·{rename_i e;cases e};·{rename_i x l' e;cases e;obtain⟨l2,h1,rfl⟩:=Option.map_eq_some_iff.1 h;rw[RC h1];rfl};·cases h
theorem RB:∀l:List Int,xG (l.map um)=some l|[]=>rfl|x::l=>by simp[um,xG];exact RB l
def KW(off:Nat)(r:List U):Option (List Int):=match r.drop off with| .sl ks::_=>xG ks|_=>none
def tu(m off:Nat):List U→Option (List (List U))|[.aA [.sl rows], .aA [.val (.int .i64 k)]]=>if(rows.all fun r=>decide (r.length=m)&&r.all U.cell&&eu r&&cY r)=true then(idx rows k).bind fun r=>(KW off r).bind fun l=>if l.length≤4294967296 then(iM rows 0 l).map (·.map (nT id))else none else none|_=>none
theorem RL{α:Type}{c:α→List U}{nodes:List α}:∀{l:List Int}{j:Nat}{ys:List (Int×α)},iM nodes j l=some ys→iM (nodes.map c) j l=some (ys.map fun y=>(y.1,c y.2))|[],j,ys,h=>by{simp[iM]at h;subst h;rfl}|x::l,j,ys,h=>by simp only[iM,Hb,H3]at h;obtain⟨n,h1,r,h2,rfl⟩:=h;simp[iM,C6 h1,RL h2]
theorem afQ{α:Type}{c:α→List U}{kids:α→List Int}{rest:α→List U}{nodes:List α}{k:Int}{ys:List (Int×α)}{m off:Nat}[hi:oa c][hf:iw c](h:iN kids nodes k=some ys)(hl:∀x,(c x).length=m:=by exact fun _=>rfl)(hc:∀x,(c x).drop off= .sl ((kids x).map um)::rest x:=by exact fun _=>rfl):tu m off [.aA [.sl (nodes.map c)], .aA [.val (.int .i64 k)]]=some (ys.map (nT c)):=by unfold iN at h;simp only[Hb]at h;obtain⟨n,h1,h2⟩:=h;split at h2;(case isFalse=>cases h2);rename_i hlen;show(if _ then _ else _)=_;rw[AC (by simp only[List.all_map,List.all_eq_true,Function.comp,Bool.and_eq_true,decide_eq_true_eq];intro x _;exact⟨⟨⟨hl x,fun y hy=>List.all_eq_true.1 (hi.ce x) y hy⟩,hi.im x⟩,hf.fl x⟩),C6 h1,H4];simp only[KW,hc,RB,H4,RL h2,H1,List.map_map,AC hlen];rfl
theorem xM{C:aL}{k:FuncId}{α:Type}{c:α→List U}{kids:α→List Int}{rest:α→List U}{nodes:List α}{k0:Int}{ys:List (Int×α)}{m off:Nat}[hi:oa c][hf:iw c](hk:C.iter k=some (tu m off))(h:iN kids nodes k0=some ys)(hl:∀x,(c x).length=m:=by exact fun _=>rfl)(hc:∀x,(c x).drop off= .sl ((kids x).map um)::rest x:=by exact fun _=>rfl):
  AQ C (.fn (.func k) [] [.aA [.sl (nodes.map c)], .aA [.val (.int .i64 k0)]])=some (ys.map (nT c)):=by
 show(if eu [.aA [.sl (nodes.map c)], .aA [.val (.int .i64 k0)]]=true then(C.iter k).bind (· [.aA [.sl (nodes.map c)], .aA [.val (.int .i64 k0)]])else none)=_
 rw[AC (by simp[eu,fA]),hk]
 exact afQ h hl hc
/-! ### The iterator keeps its word -/
theorem qD{α:Type}{nodes:List α}:∀{l:List Int}{j:Nat}{ys:List (Int×α)},iM nodes j l=some ys→ys.length=l.length∧∀(i:Nat)(x:Int),l[i]? =some x→∃n,idx nodes x=some n∧ys[i]? =some (((j+i:Nat):Int),n)|[],j,ys,h=>by{simp[iM]at h;subst h;exact⟨rfl,fun i x h=>by simp at h⟩}|x::l,j,ys,h=>by simp only[iM,Hb,H3]at h;obtain⟨n,h1,r,h2,rfl⟩:=h;obtain⟨g1,g2⟩:=qD h2;refine⟨by simp[g1],fun i x' hx=> ?_⟩;cases i with|zero=>(simp at hx;subst hx;exact⟨n,h1,by simp⟩)|succ i=>obtain⟨n',k1,k2⟩:=g2 i x' (by simpa using hx);exact⟨n',k1,by rw[List.getElem?_cons_succ,k2];congr 3;omega⟩
def y6(g f:Nat→U):Prop:=∀t,f t=g t∨f t= .bB
theorem U4{g:Nat→U}:y6 g (fun _=> .bB):=fun _=> .inr rfl
theorem p9{g f:Nat→U}{s:Nat}{v:U}(h:y6 g f)(hs:g s=v:=by exact rfl):y6 g (an f s v):=fun t=>by by_cases e:t=s;·{subst e;left;simp[an,hs]};·simpa[an,e]using h t
theorem nC.weak{C:aL}{J dn:yU}{z:Option Nat}{a:Act}{W:World}{n:Nat}{t t':Nat→U}{h:Id→Option (Option Rows)}(hw:y6 t t')(hS:nC C J dn z ⟨n,t,h⟩ a W):nC C J dn z ⟨n,t',h⟩ a W:=by obtain⟨h0,E,β,F,h1,h2,h3,h4⟩:=hS;refine⟨h0,E,β,F,{n:=h1.n,df:=h1.df,slot:=fun u=> ?_,obj:=h1.obj,dead:=h1.dead,nd:=h1.nd,dc:=h1.dc,dom:=h1.dom,lt:=h1.lt,kept:=h1.kept,cD:=h1.cD,ns:=h1.ns,kb:=h1.kb},h2,h3,h4⟩;rcases hw u with e|e;·{simp only[e];exact h1.slot u};·simp only[e];exact .bB
section
variable{C:aL}{f:FuncId}{call:gd}{l:Nat}{ys:List (List U)}{z:Option Nat}{Q:Exit→Option Nat→ah→Prop}{c:Code}{n:Nat}{t:Nat→U}{h:Id→Option (Option Rows)}
theorem ald(L:Nat)(rep:Nat→Nat→U)(h0:y6 t (rep 0))(round:∀j,j≤L→lp C f call l ys c (some j) ⟨n,rep j,h⟩ fun e z' S'=>match e with| .normal=>j<L∧z'=some (j+1)∧S'.n=n∧S'.h=h∧y6 S'.t (rep (j+1))|e=>Q e z' S'):lp C f call l ys (.loop c) (some 0) ⟨n,t,h⟩ Q:=by intro J dn gA a W jK hS hQ;refine Na (fun m a W=>∃j,j+m=L∧nC C J dn (some j) ⟨n,rep j,h⟩ a W) L ⟨0,by omega,hS.weak h0⟩ ?_;rintro m a W⟨j,hj,hS⟩;refine round j (by omega) J dn gA a W _ hS fun e z' S' a' W' hq lK=> ?_;cases e with|normal=>(obtain⟨h1,rfl,h2,h3,h4⟩:=hq;obtain⟨n',t',h'⟩:=S';simp only at h2 h3 h4;subst h2 h3;exact⟨m-1,by omega,j+1,by omega,lK.weak h4⟩)|_=>exact hQ _ _ _ _ _ hq lK
end
section
variable{C:aL}{k:FuncId}{fn:Func}{Ig y3 sC yZ Bz Xe:TypeId}{m off dx:Nat}{y0 y1 b5 bO cJ cp bk bq aW cK cT c4 eP kQ tY fQ gp gq iT q4 tZ n6 ala alb alc:TypeId}{vh p1 p2 p3 nh r7 G5 G6 aiD aiE aio aip aiq air ais ait aiu aiv aiw aix aiy aiz aiA aiB aiC:String}{f0 f1 f2 f3 f4 f5 f6 f7 f8 f9 f10 f11 f12 f13 f14 f15 f16 f17 f18 f19 f20 f21 f22 f23 f24:Array Edge}
set_option maxHeartbeats 2000000 in theorem afV [Fd C Ig 0 0 1 false][cM C y3 false 1][c7 C y3 (.slice yZ)][cM C yZ true m][Fd C yZ dx off 1 false][cM C Bz false 1][c7 C Bz (.slice sC)][cM C sC false 1](hm0:Ha off m=true)(hN:kq C)(hf:C.P.funcs[k]? =some fn)(hn:fn.ntmps=28)(hres:fn.results= #[])(hfz:∀t,(C.eF k).contains t=false)(hb:fn.body=some (.seq (.region 0 ⟨[⟨some 6, .fieldAddr Ig (.tmp 1) 0,y0,vh,f0,none⟩,⟨some 7, .load y3 (.tmp 6),y1,p1,f1,none⟩,⟨some 8, .load sC (.tmp 2),b5,p2,f2,none⟩,⟨some 9, .indexAddr y3 (.tmp 7) (.tmp 8),bO,p3,f3,none⟩,⟨some 10, .fieldAddr yZ (.tmp 9) dx,cJ,nh,f4,none⟩,⟨some 11, .load Bz (.tmp 10),cp,r7,f5,none⟩,⟨some 12, .call ⟨.builtin .len,⟨[.tmp 11]⟩,⟨[Bz]⟩⟩,bk,G5,f6,none⟩,⟨some 13, .move (.const (.int .i64 0)),bq,G6,f7,none⟩]⟩ false) (.block 0 (.loop (.seq (.region 1 ⟨[⟨some 14, .binOp .lss sC (.tmp 13) (.tmp 12) sC,aW,aiD,f8,none⟩]⟩ false) (.seq (.cond (.tmp 14) .skip (.exit 0)) (.seq (.block 1 (.seq (.region 2 ⟨[⟨some 15, .move (.tmp 13),cK,aiE,f9,none⟩,⟨some 16, .indexAddr Bz (.tmp 11) (.tmp 13),cT,aio,f10,none⟩,⟨some 17, .load sC (.tmp 16),c4,aip,f11,none⟩,⟨some 4, .assign (.tmp 15),eP,aiq,f12,none⟩,⟨some 5, .assign (.tmp 17),kQ,air,f13,none⟩]⟩ false) (.seq (.region 3 ⟨[⟨some 18, .move (.tmp 0),tY,ais,f14,none⟩,⟨some 19, .move (.tmp 4),fQ,ait,f15,none⟩,⟨some 20, .fieldAddr Ig (.tmp 1) 0,gp,aiu,f16,none⟩,⟨some 21, .load y3 (.tmp 20),gq,aiv,f17,none⟩,⟨some 22, .move (.tmp 5),iT,aiw,f18,none⟩,⟨some 23, .indexAddr y3 (.tmp 21) (.tmp 22),q4,aix,f19,none⟩,⟨some 24, .load yZ (.tmp 23),tZ,aiy,f20,none⟩,⟨some 25, .call ⟨.value (.tmp 18),⟨[.tmp 19, .tmp 24]⟩,⟨[sC,yZ]⟩⟩,n6,aiz,f21,none⟩,⟨some 26, .unOp .not Xe (.tmp 25),ala,aiA,f22,none⟩]⟩ false) (.cond (.tmp 26) .ret .skip)))) (.region 4 ⟨[⟨some 27, .binOp .add sC (.tmp 13) (.const (.int .i64 1)) sC,alb,aiB,f23,none⟩,⟨some 13, .move (.tmp 27),alc,aiC,f24,none⟩]⟩ false)))))))):qc C k (tu m off):=by have hm:off<m:=of_decide_eq_true (lq hm0);refine afF (call:=fun _ _=>none) hN (fun _ _ _ h=>by cases h) hf hb hres ?_ ?_ ?_;·{intro caps ys h;unfold tu at h;split at h;·{simp[hn]};·cases h};·{intro l caps ys h id;unfold tu at h;split at h;·{rfl};·cases h};intro l caps ys h;rw[hn];unfold tu at h;split at h;(case h_2=>cases h);rename_i rows k0;split at h;(case isFalse=>cases h);rename_i hall;obtain⟨q,rfl⟩:∃q:List (e4 m),rows=q.map e4.v:=by{refine⟨rows.attachWith _ (fun r hr=>List.all_eq_true.1 hall r hr), ?_⟩;exact(List.attachWith_map_subtype_val _).symm};clear hall;simp only[Hb]at h;obtain⟨ajj,h1,ks,h2,h3⟩:=h;split at h3;(case isFalse=>cases h3);rename_i hbd;obtain⟨Nc,h4,rfl⟩:=Option.map_eq_some_iff.1 h3;obtain⟨eH,uN,rfl⟩:∃eH,idx q k0=some eH∧ajj=eH.v:=by{have hb:=Ag h1;obtain⟨eH,hr⟩:∃eH,q[k0.toNat]? =some eH:=⟨_,List.getElem?_eq_getElem (by simp at hb;omega)⟩;have:idx q k0=some eH:=by{unfold idx;rw[AC hb.1,hr]};refine⟨eH,this, ?_⟩;rw[C6 this]at h1;exact(Option.some.inj h1).symm};obtain⟨rs,adR⟩:∃rs,eH.v.drop off= .sl (ks.map um)::rs:=by{unfold KW at h2;split at h2;·{rename_i ks' rs e;rw[RC h2]at e;exact⟨rs,e⟩};·cases h2};have hlen:∀r:e4 m,r.v.length=m:=fun r=>(zo r).1;have hle:∀r:e4 m,Nat.ble off r.v.length=true:=fun r=>Nat.ble_eq_true_of_le (by rw[hlen];omega);have uL:Ha 0 m=true:=by{simp[Ha];omega};obtain⟨FV,gg⟩:=qD h4;have KC:(Nc.map (nT id)).length=ks.length:=by{simp[FV]};rw[KC];let st:Nat→Nat→U:=fun j=>an (an (an (an (an (an (fun _=> .bB) 0 (.fn (.yield l) [] [])) 1 (.aA [.sl (q.map e4.v)])) 2 (.aA [.val (.int .i64 k0)])) 11 (.sl (ks.map um))) 12 (.val (.int .i64 ks.length))) 13 (.val (.int .i64 (j:Int)));show lp C k (fun _ _=>none) l (Nc.map (nT id)) _ (some 0) ⟨28,an (an (an (fun _=> .bB) 2 (.aA [.val (.int .i64 k0)])) 1 (.aA [.sl (q.map e4.v)])) 0 (.fn (.yield l) [] []),fun _=>none⟩ _;refine HO<|iC (ax (C:=C) (hz:=hfz _))<|iC aq<|iC aq<|iC (cr uN (h0:=uL) (hr:=hlen _))<|iC (ax (hl:=hle _) (hz:=hfz _))<|iC (aq (hv:=adR))<|iC de<|iC aa<|Bs<|Vb<|ald ks.length st ?_ ?_;·{exact p9 (p9 (p9 (p9 (p9 (p9 U4)))))};intro j hj;refine HO<|iC (eX (a:=(j:Int)) (b:=(ks.length:Int)))<|Bs ?_;rcases GT j ks.length with hlt|hge;·{have hd:decide ((j:Int)<(ks.length:Int))=true:=by{simp;omega};obtain⟨x,hx⟩:∃x,ks[j]? =some x:=⟨_,List.getElem?_eq_getElem hlt⟩;have aeh:idx ks (j:Int)=some x:=by{unfold idx;rw[AC (by omega)];simpa using hx};obtain⟨nd,hnd,hy⟩:=gg j x hx;obtain⟨nd,oE,rfl⟩:∃r,idx q x=some r∧nd=r.v:=by{have hb:=Ag hnd;obtain⟨r,hr⟩:∃r,q[x.toNat]? =some r:=⟨_,List.getElem?_eq_getElem (by simp at hb;omega)⟩;have:idx q x=some r:=by{unfold idx;rw[AC hb.1,hr]};refine⟨r,this, ?_⟩;rw[C6 this]at hnd;exact(Option.some.inj hnd).symm};have afe:(Nc.map (nT id))[j]? =some [.val (.int .i64 (j:Int)), .agg nd.v]:=by{rw[List.getElem?_map,hy];simp[nT]};have htk:nd.v.take m=nd.v:=List.take_of_length_le (by rw[hlen];omega);refine HN (HM (bb:=true) (by rw[←hd];rfl) (Vd ?_));refine HN (Vb ?_);refine HO<|iC aa<|iC (cr (c:=um) aeh)<|iC aq<|iC af<|iC af<|Bs ?_;refine HO<|iC (aa (v:= .fn (.yield l) [] []) (h:=rfl))<|iC aa<|iC (ax (hz:=hfz _))<|iC aq<|iC aa<|iC (cr oE (h0:=uL) (hr:=hlen _))<|iC (cI (hl:=Nat.ble_eq_true_of_le (by rw[hlen];omega)) (hv:=htk))<|alh rfl afe rfl ?_ ?_ ?_;·{have:=(zo nd).2.2.1;simp[eu,fA,this]};·{refine iC fS<|Bs<|HM (bb:=false) rfl (Vd ?_);have hw:(IntKind.i64.wrap ((j:Int)+1))=((j+1:Nat):Int):=by{simp only[IntKind.wrap,IntKind.bits,IntKind.signed];simp;split<;>omega};refine Vc<|iC dR<|iC aa<|Bs ⟨hlt,rfl,rfl,rfl, ?_⟩;exact p9 (p9 (p9 (p9 (p9 (p9 U4))))) (by show U.val (.int .i64 (IntKind.i64.wrap ((j:Int)+1)))=_;rw[hw])};·exact iC fS<|Bs<|HM (bb:=true) rfl (alf ⟨.inr rfl, .inr rfl⟩)};·have hd:decide ((j:Int)<(ks.length:Int))=false:=by{simp;omega};refine HN (HM (bb:=false) (by rw[←hd];rfl) (ale ?_));obtain rfl:j=ks.length:=by{omega};exact⟨.inl rfl, .inl rfl⟩
end
end Go.Ab
namespace Go.Ab
open Go
def nD(P:Program)(cD:Nat→Option (List U)):aL:={P:=P,cD:=cD,ext:=fun _=>none,cA:=fun _=>[],eF:=fun _=>[],live:=fun _ _=>[],iy:=fun _ _=>[]}
theorem YS{P:Program}{cD:Nat→Option (List U)}(h:qd P):kq (nD P cD):=⟨h,(fun k p(h:(none:Option (Nat×Nat))=some p)=>by cases h),(fun k(h:false=true)=>by cases h)⟩
theorem YT{P:Program}{cD:Nat→Option (List U)}:q7 (nD P cD):=⟨(fun f i b l(h:(none:Option (Bool×List Nat))=some (b,l))=>by cases h),(fun f i b l(h:(none:Option (Bool×List Nat))=some (b,l))=>by cases h),(fun f i b l(h:(none:Option (Bool×List Nat))=some (b,l))=>by cases h)⟩
theorem agn{C:aL}{k:FuncId}{fn:Func}{c:Code}(adr:qd C.P)(hw:C.P.follows .mixedOrders=true)(hf:C.P.funcs[k]? =some fn)(hb:fn.body=some c)(hok:oO (nD C.P C.cD) k c=true)(hle:C.cA k=[])(h:∀{us:List Value}{i c:Int}{cells:List U}{ks:Rows}{u:Value},(∀u∈us,eC u=true)→cells[4]? =some (.sl ks)→ks[i.toNat]? =some [.val (.int .i64 c)]→us[c.toNat]? =some u→0≤i→0≤c→den (nD C.P C.cD) 1 k [.val (.int .i64 i), .aA [.sl (us.map fun u=>[.val u])], .aA cells]=some (.val u,[])):yX C k:=by intro w cR vs us i c cells ks u oF hargs h4 hk hu hi hc hI hg;have hs:Sound (nD C.P C.cD) k [.val (.int .i64 i), .aA [.sl (us.map fun u=>[.val u])], .aA cells] (.val u,[]):=SQ (YS adr) hw (fun _ _=>fR.nil) YT (fun k it(h:(none:Option (List U→Option (List (List U))))=some it)=>by cases h) (fun k(h:false=true)=>by cases h) (fun g a r(h:(none:Option (List U→Option (U×List U)))=some g)=>by cases h) (fun fn' c' _ h1 h2=>by have h1:C.P.funcs[k]? =some fn':=h1;rw[hf]at h1;obtain rfl:=H5 h1;rw[hb]at h2;obtain rfl:=H5 h2;exact hok) (call:=den (nD C.P C.cD) 0) (fun k as r(h:(none:Option (U×List U))=some r)=>by cases h) Av (h oF h4 hk hu hi hc);have:=hs.1 rfl w cR [] vs hargs Hc (fun b hb=>⟨hI b hb,by simp⟩) (fun b hb=>by cases hb) hg;have post:∀v w',vX w [] cR (r3 ((nD C.P C.cD).cA k) vs) (.val u,[]) v w'→v=u∧Kept w w' (fun _=>False):=fun v w' hr=>by{obtain⟨I',fr,g1,_,_,_⟩:=hr.ex;obtain⟨f1,f2,v1,vs',_,e1,k1,_⟩:=av.cons_inv g1;simp only[List.cons.injEq]at e1;obtain⟨rfl,_⟩:=e1;exact⟨k1.gE.2,⟨hr.kept.size,fun b hb _=>hr.kept.blk b hb (by simp),hr.kept.os,hr.kept.out,hr.kept.eF,hr.kept.nk⟩⟩};rcases this with⟨fn',c',q1,cv,cW⟩|⟨v,w',q1,cv⟩;·{exact .inl ⟨fn',c',q1,cv,cW.mono fun e w' hh=>by obtain⟨v,rfl,hr⟩:=hh;exact⟨v,rfl,post v w' hr⟩⟩};·exact .inr ⟨v,w',q1,post v w' cv⟩
end Go.Ab
