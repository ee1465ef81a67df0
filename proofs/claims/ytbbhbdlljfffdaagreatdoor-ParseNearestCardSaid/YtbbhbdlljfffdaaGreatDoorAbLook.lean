import Derived.Test.YtbbhbdlljfffdaaGreatDoorAbV14
import Derived.Test.YtbbhbdlljfffdaaGreatDoorAbClone
open Array renaming replicate→Hc,getElem?_eq_none→Hm,getElem?_eq_getElem→Hn
open List renaming range→GE,nodup_nil→Hb,length_cons→Hd,range'_succ→Hk,getElem?_eq_none→H0
open Nat renaming lt_or_ge→GT,blt→Ha
open Option renaming bind_eq_some_iff→H1
open Option.some renaming inj→H2
set_option linter.all false
namespace Go.Ab
open Go
abbrev sL:=Nat→(Nat→Prop)→World→Prop
def sK(J:sL):Prop:=∀i X Y W W',J i X W→Kept W W' (fun _=>False)→(∀b,Y b→(X b∨W.heap.size≤b)∧b<W'.heap.size)→J i Y W'
def yh(J cz:sL):Option Nat→(Nat→Prop)→World→Prop|some i,X,W=>J i X W|none,X,W=>∃i,cz i X W
def kq(C:aB)(J cz:sL)(z:Option Nat)(S:ah)(a:Act)(W:World):Prop:=a.defers=[]∧∃E β F,aC C E W S a β F∧(∀b,¬E.dR b)∧(∀id,S.h id=none)∧yh J cz z (av E W F) W
/-! ### Operations that defer nothing -/
def xK:Op→Bool| .move _| .assign _| .load _ _| .fieldAddr _ _ _| .indexAddr _ _ _| .binOp _ _ _ _ _| .unOp _ _ _| .field _ _ _| .extract _ _| .box _ _| .alloc _| .build _ _=>true| .call c=>(match c.callee with| .builtin .len=>true|_=>false)|_=>false
theorem KX{P:Program}{w w':World}{s:Sem Value}{d:Deferred}:(do pure (Next.value (←s)):Sem Next).run P w≠ .ok (.defer d) w':=by intro h;rw[Sem.run_bind]at h;cases hs:s.run P w with|ok v w1=>(rw[hs]at h;simp at h)|halt x w1=>rw[hs]at h;cases h
theorem Xw{P:Program}{ρ:Operand→Value}{o:Oper}{w w':World}{d:Deferred}(hp:xK o.op=true):(execOp ρ o).run P w≠ .ok (.defer d) w':=by
 unfold xK at hp
 split at hp
 all_goals try(rename_i ho;unfold execOp;rw[ho];exact KX)
 ·rename_i ho;unfold execOp;rw[ho];intro h;cases h
 ·rename_i ho;unfold execOp;rw[ho];intro h;cases h
 ·rename_i c ho
  split at hp
  ·rename_i hc
   have e:execOp ρ o=builtin .len c.argTypes o.type (c.args.map fun| .const _=>true|_=>false) (c.args.map ρ):=by
    unfold execOp;rw[ho];simp only[resolve,hc];rfl
   rw[e]
   exact KX
  ·cases hp
 ·cases hp
theorem Xv{o:Oper}(hp:xK o.op=true)(c:Call):o.op≠ .defer c:=fun e=>by rw[e]at hp;cases hp
section
variable{C:aB}{f:FuncId}{call:eV}{J cz:sL}{z:Option Nat}{S:ah}{a:Act}{W w:World}
theorem YU{P:Program}{o:Oper}{next next':Act→World→Prop}{Q:Exit→Act→World→Prop}(hp:xK o.op=true)(h:o.wp P a w next Q)(hn:∀w' v,next (a.put o.dst v) w'→next' (a.put o.dst v) w'):o.wpIn Fence.wide 0 P a w next' Q:=by refine⟨fun f _=>yd none f, ?_⟩;rw[Oper.semAt_eq _ _ _ (Xv hp)];unfold Oper.wp at h;have hnd:∀d w',(execOp a.eval o).run P w≠ .ok (.defer d) w':=fun d w'=>Xw hp;generalize(execOp a.eval o).run P w=r at*;cases r with|ok x w'=>(cases x with|value v=>(exact hn _ v h)|skip=>(exact hn _ undef h)|defer d=>(exact absurd rfl (hnd d w'))|enter f args=>(exact⟨sI none,GA (ro:=none) (h.mono fun e w'' he=>by cases e<;>first|exact hn _ _ he|exact he)⟩)|row row args=>(exact⟨sI none,KJ (ro:=none) (h.mono fun v w'' he=>hn _ _ he)⟩)|round l f tmps assign body=>(exact h.elim)|_=>exact h)|halt x w'=>cases x<;>exact h
theorem kq.start(tr:sK J)(vO:sK cz)(h:kq C J cz z S a W):a.defers=[]∧∃E β F,aC C E W S a β F∧E.w0=W∧(∀b,¬E.dR b)∧(∀id,F id=[])∧(∀id,S.h id=none)∧yh J cz z (av E W F) W:=by obtain⟨h0,E,β,F,h1,h2,h3,h4⟩:=h;have hF:∀id,F id=[]:=fun id=>h1.dead id (by rw[h3];simp);refine⟨h0,E.at W F,β,F,h1.Am,rfl,fun b hb=> ?_,hF,h3, ?_⟩;·{obtain⟨id,hm⟩:=hb;rw[hF]at hm;cases hm};·have key:∀b,av (E.at W F) W F b→(av E W F b∨W.heap.size≤b)∧b<W.heap.size:=fun b hb=>⟨.inl (FC.1 hb),hb.2.1⟩;cases z with|some i=>(exact tr _ _ _ _ _ h4 (Kept.refl _ _) key)|none=>obtain⟨i,h4⟩:=h4;exact⟨i,vO _ _ _ _ _ h4 (Kept.refl _ _) key⟩
theorem kq.fin{E:Env}{F:Id→List Nat}(tr:sK J)(vO:sK cz)(h0:E.w0=W)(hE:∀b,¬E.dR b)(hF:∀id,F id=[])(hj:yh J cz z (av E W F) W){S':ah}{a':Act}{w':World}(hS:aW C E S' a' w')(hh:∀id,S'.h id=none)(hd:a'.defers=[]):kq C J cz z S' a' w':=by subst h0;obtain⟨β',F',h'⟩:=hS;have hk:Kept E.w0 w' (fun _=>False):=⟨h'.kept.size,fun b h1 _=>h'.kept.blk b h1 (hE b),h'.kept.os,h'.kept.out,h'.kept.dN,h'.kept.ke⟩;have key:∀b,av E w' F' b→(av E E.w0 F b∨E.w0.heap.size≤b)∧b<w'.heap.size:=fun b hb=>⟨by rcases GT b E.w0.heap.size with h|h;·{refine .inl ⟨?_,h,fun id hm=>by rw[hF]at hm;cases hm⟩;rcases hb.1 with h1|h1|h1;·{exact .inl h1};·{exact absurd h1 (hE b)};·omega};·exact .inr h,hb.2.1⟩;refine⟨hd,E,β',F',h',hE,hh, ?_⟩;cases z with|some i=>(exact tr _ _ _ _ _ hj hk key)|none=>obtain⟨i,hj⟩:=hj;exact⟨i,vO _ _ _ _ _ hj hk key⟩
/-! ### The walk -/
structure Ge(C:aB)(call:eV)(l:Nat)(ys:List (List U))(J cz:sL):Prop where
 n:ia C
 calls:∀k as r,call k as=some r→Sound C k as r
 j:sK J
 zF:sK cz
 y:∀i X W vs y,J i X W→ys[i]? =some y→aj W X br [] vs y→YieldAt Fence.wide 0 C.P l ⟨vs⟩ W fun e W'=>((e= .returned (.bool true)∧J (i+1) X W')∨(e= .returned (.bool false)∧cz (i+1) X W'))∧∀b,X b→W'.heap[b]? =W.heap[b]?
def iT(C:aB)(f:FuncId)(call:eV)(l:Nat)(ys:List (List U))(c:Code)(z:Option Nat)(S:ah)(Q:Exit→Option Nat→ah→Prop):Prop:=∀J cz,Ge C call l ys J cz→∀a W gE,kq C J cz z S a W→(∀e z' S' a' W',Q e z' S'→kq C J cz z' S' a' W'→gE e a' W')→c.wpIn Fence.wide 0 C.P gE a W
def oh(C:aB)(f:FuncId)(call:eV)(l:Nat)(ys:List (List U))(ops:Array Oper)(i:Nat)(os:List Oper)(z:Option Nat)(S:ah)(Q:Option Nat→ah→Prop):Prop:=(∀j,os[j]? =ops[i+j]?)→∀J cz,Ge C call l ys J cz→∀a W gE,kq C J cz z S a W→(∀z' S' a' W',Q z' S'→kq C J cz z' S' a' W'→gE .normal a' W')→wpOpsIn Fence.wide 0 C.P ops gE (List.range' i os.length) a W
end
section
variable{C:aB}{f:FuncId}{call:eV}{l:Nat}{ys:List (List U)}{z:Option Nat}{S:ah}{Q:Exit→Option Nat→ah→Prop}{c b:Code}{ops:Array Oper}{i n d:Nat}{os:List Oper}{K:Option Nat→ah→Prop}
variable{t:Nat→U}{h:Id→Option (Option Rows)}{op:Op}{ty:TypeId}{pos:String}{aM:Array Edge}{v:U}
theorem uP(k:K z S):oh C f call l ys ops i [] z S K:=fun _ J cz _ a W gE hS hQ=>hQ _ _ _ _ k hS
theorem fT(he:bn C f call ⟨n,t,h⟩ true ⟨some d,op,ty,pos,aM,none⟩=some ⟨[(d,v)],[],[]⟩)(k:oh C f call l ys ops (i+1) os z ⟨n,ai t d v,h⟩ K)(hs:Ha d n=true:=by exact rfl)(hp:xK op=true:=by exact rfl):oh C f call l ys ops i (⟨some d,op,ty,pos,aM,none⟩::os) z ⟨n,t,h⟩ K:=by intro hl J cz eX a W gE hS hQ;have h0:ops[i]? =some ⟨some d,op,ty,pos,aM,none⟩:=by{simpa using(hl 0).symm};obtain⟨g0,E,β,F,g1,g2,g3,g4,g5,g6⟩:=hS.start eX.j eX.zF;rw[Hd,Hk,wpOpsIn_cons];unfold wpOpIn;simp only[h0];have hw:Region.wanted (⟨some d,op,ty,pos,aM,none⟩:Oper) (yielded ops a.tmps)=true:=rfl;rw[AC hw];have hlt:d<n:=of_decide_eq_true (kz hs);refine YU hp (zX (next:=aW C E ⟨n,ai t d v,h⟩) eX.n eX.calls g1 he (by simp[bT,hlt]) fun a' w' hx=>hx) fun w' u hx=> ?_;exact k (fun j=>by have:=hl (j+1);simpa[Nat.add_assoc,Nat.add_comm 1 j]using this) J cz eX _ _ gE (kq.fin (E:=E) (F:=F) eX.j eX.zF g2 g3 g4 g6 hx g5 (by rw[put_defers];exact g0)) hQ
theorem Y4{cj:Operand}{xs:List Operand}{ts:Array TypeId}{k:Nat}{y:List U}(hfo:un true ((⟨n,t,h⟩:ah).get C cj)= .fn (.yield l) [] [])(hy:ys[k]? =some y)(hxs:(xs.map fun x=>un true ((⟨n,t,h⟩:ah).get C x))=y)(hi:dG y=true)(k1:oh C f call l ys ops (i+1) os (some (k+1)) ⟨n,ai t d (.val (.bool true)),h⟩ K)(k2:oh C f call l ys ops (i+1) os none ⟨n,ai t d (.val (.bool false)),h⟩ K)(hs:Ha d n=true:=by exact rfl):oh C f call l ys ops i (⟨some d, .call ⟨.value cj,⟨xs⟩,ts⟩,ty,pos,aM,none⟩::os) (some k) ⟨n,t,h⟩ K:=by intro hl J cz eX a W gE hS hQ;have h0:ops[i]? =some ⟨some d, .call ⟨.value cj,⟨xs⟩,ts⟩,ty,pos,aM,none⟩:=by{simpa using(hl 0).symm};obtain⟨g0,E,β,F,g1,g2,g3,g4,g5,g6⟩:=hS.start eX.j eX.zF;have hlt:d<n:=of_decide_eq_true (kz hs);have je:=g1.cZ cj;rw[hfo]at je;obtain⟨_,v1,v2,je,r1,r2⟩:=je.lY;obtain⟨_,rfl⟩:=r1.eJ;obtain⟨_,rfl⟩:=r2.eJ;have hargs:=aj.ofMap g1 xs;rw[hxs]at hargs;have SO:aj W (av E W F) br [] (xs.map a.eval) y:=aj.kG hargs hi;obtain⟨fn,tmps,assign,body,hrun,hR⟩:=eX.y k _ W _ y g6 hy SO;rw[Hd,Hk,wpOpsIn_cons];unfold wpOpIn;simp only[h0];have hw:Region.wanted (⟨some d, .call ⟨.value cj,⟨xs⟩,ts⟩,ty,pos,aM,none⟩:Oper) (yielded ops a.tmps)=true:=rfl;rw[AC hw];refine⟨fun f _=>yd none f, ?_⟩;rw[Oper.semAt_eq _ _ _ (fun c e=>by cases e)];have hex:(execOp a.eval (⟨some d, .call ⟨.value cj,⟨xs⟩,ts⟩,ty,pos,aM,none⟩:Oper)).run C.P W= .ok (.round l fn tmps assign body) W:=by{have e1:(⟨xs⟩:Array Operand).map a.eval=⟨xs.map a.eval⟩:=by{apply Array.ext';simp};simp only[execOp,resolve,je];rw[e1];simpa[invoke,go_sem]using hrun};rw[hex,Oper.uponIn_round];refine⟨sI none,hR.mono ?_⟩;have fin:∀(z':Option Nat)(bb:Bool)(W':World),(yh J cz z' (av E W F) W')→(∀b,av E W F b→W'.heap[b]? =W.heap[b]?)→oh C f call l ys ops (i+1) os z' ⟨n,ai t d (.val (.bool bb)),h⟩ K→wpOpsIn Fence.wide 0 C.P ops gE (List.range' (i+1) os.length) (a.put (some d) (.bool bb)) W':=by{intro z' bb W' hj hb kk;have nM:∀b,av E W F b→b<W'.heap.size:=fun b hb'=>by{have:=hb b hb';rcases GT b W'.heap.size with h1|h1;·{exact h1};·rw[Hm h1,Hn hb'.2.1]at this;cases this};have tG:∀(id:Id)(b:Nat),b∉F id:=fun id b hm=>by{rw[g4]at hm;cases hm};let E':Env:={w0:=W',dR:=fun _=>False,bZ:=av E W F,m:=0,le:=Nat.zero_le _};have k7:∀b,av E W F b→av E' W' F b:=fun b hb'=>⟨.inl hb',nM b hb',fun id=>tG id b⟩;refine kk (fun j=>by have:=hl (j+1);simpa[Nat.add_assoc,Nat.add_comm 1 j]using this) J cz eX _ _ gE ⟨by rw[put_defers];exact g0,E',β,F, ?_,fun _ h=>h,g5, ?_⟩ hQ;·{refine{n:=(by rw[oV];exact g1.n),df:=(by rw[put_defers,g0];exact gm.nil (d0:=[])),slot:=fun t'=> ?_,obj:=fun id rows hr=>(by rw[g5]at hr;cases hr),dead:=fun id _=>g4 id,nd:=fun id=>(by rw[g4];exact Hb),ct:=fun i j b hm=>absurd hm (tG i b),dom:=g1.dom,lt:=fun id b hm=>absurd hm (tG id b),kept:=Kept.refl _ _,bJ:=fun g cs hg=>(g1.bJ g cs hg).mono k7 (fun b hb'=>hb b (by rcases hb' with h1|h1<;>first|exact h1|cases h1)) (fun _ _ h=>h),ns:=fun _ _ _ h=>h,kb:=fun _ _ h=>h.elim};rw[oU a d t' _ (by rw[g1.n];exact hlt)];by_cases e:t'=d;·{subst e;simp only[if_true,ai];exact .val rfl};·simp only[Do e,ai];exact(g1.slot t').mono k7 (fun b hb'=>hb b (by rcases hb' with h1|h1<;>first|exact h1|cases h1)) (fun _ _ h=>h)};·have key:∀b,av E' W' F b→(av E W F b∨W'.heap.size≤b)∧b<W'.heap.size:=fun b hb'=>⟨by rcases hb'.1 with h1|h1|h1;·{exact .inl h1};·{exact h1.elim};·exact .inr h1,hb'.2.1⟩;cases z' with|some i=>(exact eX.j _ _ _ _ _ hj (Kept.refl _ _) key)|none=>obtain⟨i,hj⟩:=hj;exact⟨i,eX.zF _ _ _ _ _ hj (Kept.refl _ _) key⟩};rintro e W'⟨⟨rfl,hj⟩|⟨rfl,hj⟩,hb⟩;·{exact fin (some (k+1)) true W' hj hb k1};·exact fin none false W' ⟨_,hj⟩ hb k2
theorem Ly{id:Nat}(k:oh C f call l ys ⟨os⟩ 0 os z S fun z' S'=>Q .normal z' S'):iT C f call l ys (.region id ⟨os⟩ false) z S Q:=fun J cz eX a W gE hS hQ=>by refine wpIn_region ?_;have:=k (fun j=>by simp) J cz eX a W gE hS (fun z' S' a' W' hq=>hQ _ _ _ _ _ hq);simpa[List.range_eq_range']using this
theorem AH{a:Code}(k:iT C f call l ys a z S fun e z' S'=>match e with| .normal=>iT C f call l ys b z' S' Q|e=>Q e z' S'):iT C f call l ys (.seq a b) z S Q:=fun J cz eX ac W gE hS hQ=>by refine wpIn_seq (k J cz eX ac W _ hS fun e z' S' a' W' hq jc=> ?_);cases e with|normal=>(exact hq J cz eX _ _ _ jc hQ)|_=>exact hQ _ _ _ _ _ hq jc
theorem AI{id:Nat}(k:oh C f call l ys ⟨os⟩ 0 os z S fun z' S'=>iT C f call l ys b z' S' Q):iT C f call l ys (.seq (.region id ⟨os⟩ false) b) z S Q:=AH (Ly k)
theorem Lz(k:Q .normal z S):iT C f call l ys .skip z S Q:=fun J cz eX a W gE hS hQ=>wpIn_skip (hQ _ _ _ _ _ k hS)
theorem Y2(k:Q .ret z S):iT C f call l ys .ret z S Q:=fun J cz eX a W gE hS hQ=>wpIn_ret (hQ _ _ _ _ _ k hS)
theorem Y1{j:Nat}(k:Q (.exit j) z S):iT C f call l ys (.exit j) z S Q:=fun J cz eX a W gE hS hQ=>wpIn_exit (hQ _ _ _ _ _ k hS)
theorem AG{x:Operand}{bb:Bool}{c1 c2:Code}(hx:un true (S.get C x)= .val (.bool bb))(k:iT C f call l ys (if bb then c1 else c2) z S Q):iT C f call l ys (.cond x c1 c2) z S Q:=fun J cz eX a W gE hS hQ=>by have hv:a.eval x= .bool bb:=by{obtain⟨_,E,β,F,g1,_⟩:=hS;have:=g1.cZ x;rw[hx]at this;exact this.e6.2};exact wpIn_cond hv (by have:=k J cz eX a W gE hS hQ;cases bb<;>exact this)
theorem Lx{j:Nat}(k:iT C f call l ys c z S fun e z' S'=>Q (match e with| .exit i=>if i=j then .normal else .exit i|e=>e) z' S'):iT C f call l ys (.block j c) z S Q:=fun J cz eX a W gE hS hQ=>by refine wpIn_block (k J cz eX a W _ hS fun e z' S' a' W' hq jc=> ?_);cases e with|exit i=>(simp only[Exit.inBlock];simp only at hq;split at hq;·{rename_i e;subst e;simpa using hQ _ _ _ _ _ hq jc};·rename_i e;simpa[e]using hQ _ _ _ _ _ hq jc)|_=>exact hQ _ _ _ _ _ hq jc
end
theorem UB{C:aB}{k:FuncId}{fn:Func}{c:Code}{call:eV}{it:List U→Option (List (List U))}(hN:ia C)(c6:∀k as r,call k as=some r→Sound C k as r)(hf:C.P.funcs[k]? =some fn)(hb:fn.body=some c)(hres:fn.results= #[])(hnt:∀caps ys,it caps=some ys→1+caps.length≤fn.ntmps)
  (hh:∀l caps ys,it caps=some ys→∀id,(aI fn.ntmps (GE (1+caps.length)) (.fn (.yield l) [] []::caps)).h id=none)
  (hw:∀l caps ys,it caps=some ys→iT C k call l ys c (some 0) (aI fn.ntmps (GE (1+caps.length)) (.fn (.yield l) [] []::caps)) fun e z _=>(e= .normal∨e= .ret)∧(z=some ys.length∨z=none)):mB C k it:=by
 refine⟨⟨fn,c,hf,hb⟩,fun caps ys hit w0 I cs hcs hI rK l J cz W hW tr vO hy h0=> ?_⟩
 refine callsIn_of_wp hf hb trivial ?_
 have hvl:=hcs.length
 let vs:List Value:= .func (.yield l) #[] #[]::cs
 let args:List U:= .fn (.yield l) [] []::caps
 have wD:vs.length=args.length:=by simp[vs,args,hvl]
 have aaN:=hnt caps ys hit
 have SY:aj W I br [] cs caps:=hcs.mono (fun _ h=>h) (fun b hb=>hW b (by rcases hb with h|h<;>first|exact h|cases h)) (fun _ _ h=>h)
 have hargs:aj W I br [] vs args:=R.cons (f1:=[]) (f2:=[]) (.fn .nil .nil) SY
 have St:∀b,I b→b<W.heap.size:=fun b hb=>by
  have :=hW b hb
  rcases GT b W.heap.size with h1|h1
  ·exact h1
  ·rw[Hm h1,Hn (hI b hb)]at this;cases this
 have nP:(GE args.length).map ((⟨vs⟩++Hc (fn.ntmps-(⟨vs⟩:Array Value).size) undef:Array Value).getD · undef)=vs:=by
  apply List.ext_getElem?
  intro k
  rw[List.getElem?_map]
  rcases GT k args.length with hk|hk
  ·rw[List.getElem?_range hk]
   simp only[Option.map_some]
   rw[Array.getD_eq_getD_getElem?,Array.getElem?_append_left (by simpa[wD]using hk)]
   have :k<vs.length:=by omega
   simp[this]
  ·rw[H0 (by simpa using hk),H0 (by omega)]
   rfl
 let E:Env:={w0:=W,dR:=fun _=>False,bZ:=I,m:=W.heap.size,le:=Nat.le_refl _}
 have tB:aW C E (aI fn.ntmps (GE args.length) args) {tmps:=⟨vs⟩++Hc (fn.ntmps-(⟨vs⟩:Array Value).size) undef,defers:=[]} W:=by
  refine aC.enter (I:=I) (f:=[]) ?_ (gm.nil (d0:=[])) ?_ List.nodup_range Hb (fun b hb=>⟨.inl hb,St b hb,by simp⟩) (fun b hb=>by cases hb) (Kept.refl W _) (fun g cs hg=> ?_) (fun _ _ _ h=>h) (fun _ _ _ h=>h)
  ·have :args.length=1+caps.length:=by simp[args];omega
   simp[wD];omega
  ·rw[nP];exact hargs
  ·exact(rK g cs hg).mono (fun _ h=>h) (fun b hb=>hW b (by rcases hb with h|h<;>first|exact h|cases h)) (fun _ _ h=>h)
 have hlen:args.length=1+caps.length:=by simp[args];omega
 obtain⟨β,F,hS⟩:=tB
 have Im:∀id,(aI fn.ntmps (GE args.length) args).h id=none:=by rw[hlen];exact hh l caps ys hit
 have hF:∀id,F id=[]:=fun id=>hS.dead id (by rw[Im];simp)
 have SL:kq C J cz (some 0) (aI fn.ntmps (GE (1+caps.length)) args) {tmps:=⟨vs⟩++Hc (fn.ntmps-(⟨vs⟩:Array Value).size) undef,defers:=[]} W:=by
  rw[←hlen]
  refine⟨rfl,E,β,F,hS,fun _ h=>h,Im, ?_⟩
  exact tr _ _ _ _ _ h0 (Kept.refl _ _) fun b hb=>⟨by
   rcases hb.1 with h1|h1|h1
   ·exact .inl h1
   ·exact h1.elim
   ·exact .inr h1,hb.2.1⟩
 refine hw l caps ys hit J cz ⟨hN,c6,tr,vO,hy⟩ _ _ _ SL ?_
 rintro e z S' a' W'⟨he,hz⟩⟨hd,E',β',F',_,_,_,hj⟩
 have hq:(∃X,J ys.length X W')∨∃i X,cz i X W':=by
  rcases hz with rfl|rfl
  ·exact .inl ⟨_,hj⟩
  ·obtain⟨i,hj⟩:=hj;exact .inr ⟨i,_,hj⟩
 have hr:∃v,(results fn a'.tmps).run C.P W'= .ok v W':=⟨.tuple #[],by simp[results,hres]⟩
 obtain⟨v,hr⟩:=hr
 rcases he with rfl|rfl
 ·exact⟨hd,v,hr,⟨v,rfl⟩,hq⟩
 ·exact⟨hd,v,hr,⟨v,rfl⟩,hq⟩
end Go.Ab
namespace Go.Ab
open Go
/-! ### What it yields -/
def wY{α:Type}(nodes:List α):Nat→List Int→Option (List (Int×α))|_,[]=>some []|j,x::l=>(idx nodes x).bind fun n=>(wY nodes (j+1) l).bind fun r=>some (((j:Int),n)::r)
def wX{α:Type}(c:α→List U)(y:Int×α):List U:=[.val (.int .i64 y.1), .agg (c y.2)]
def yJ(n:Int):List U:=[.val (.int .i64 n)]
def wV:Rows→Option (List Int)|[]=>some []|[.val (.int .i64 x)]::l=>(wV l).map (x::·)|_=>none
theorem IT:∀{ks:Rows}{l:List Int},wV ks=some l→ks=l.map yJ|[],l,h=>by{simp[wV]at h;subst h;rfl}|r::ks,l,h=>by unfold wV at h;split at h;·{rename_i e;cases e};·{rename_i x l' e;cases e;obtain⟨l2,h1,rfl⟩:=Option.map_eq_some_iff.1 h;rw[IT h1];rfl};·cases h
def IZ(off:Nat)(r:List U):Option (List Int):=match r.drop off with| .sl ks::_=>wV ks|_=>none
def r7(m off:Nat):List U→Option (List (List U))|[.aL [.sl rows], .aL [.val (.int .i64 k)]]=>if(rows.all fun r=>decide (r.length=m)&&r.all U.cell&&dG r&&cp r)=true then(idx rows k).bind fun r=>(IZ off r).bind fun l=>if l.length≤4294967296 then(wY rows 0 l).map (·.map (wX id))else none else none|_=>none
/-! ### The iterator keeps its word -/
theorem I0{α:Type}{nodes:List α}:∀{l:List Int}{j:Nat}{ys:List (Int×α)},wY nodes j l=some ys→ys.length=l.length∧∀(i:Nat)(x:Int),l[i]? =some x→∃n,idx nodes x=some n∧ys[i]? =some (((j+i:Nat):Int),n)|[],j,ys,h=>by{simp[wY]at h;subst h;exact⟨rfl,fun i x h=>by simp at h⟩}|x::l,j,ys,h=>by simp only[wY,H1,Option.some.injEq]at h;obtain⟨n,h1,r,h2,rfl⟩:=h;obtain⟨g1,g2⟩:=I0 h2;refine⟨by simp[g1],fun i x' hx=> ?_⟩;cases i with|zero=>(simp at hx;subst hx;exact⟨n,h1,by simp⟩)|succ i=>obtain⟨n',k1,k2⟩:=g2 i x' (by simpa using hx);exact⟨n',k1,by rw[List.getElem?_cons_succ,k2];congr 3;omega⟩
def sV(g f:Nat→U):Prop:=∀t,f t=g t∨f t= .aU
theorem Lo{g:Nat→U}:sV g (fun _=> .aU):=fun _=> .inr rfl
theorem mA{g f:Nat→U}{s:Nat}{v:U}(h:sV g f)(hs:g s=v:=by exact rfl):sV g (ai f s v):=fun t=>by by_cases e:t=s;·{subst e;left;simp[ai,hs]};·simpa[ai,e]using h t
theorem kq.weak{C:aB}{J cz:sL}{z:Option Nat}{a:Act}{W:World}{n:Nat}{t t':Nat→U}{h:Id→Option (Option Rows)}(hw:sV t t')(hS:kq C J cz z ⟨n,t,h⟩ a W):kq C J cz z ⟨n,t',h⟩ a W:=by obtain⟨h0,E,β,F,h1,h2,h3,h4⟩:=hS;refine⟨h0,E,β,F,{n:=h1.n,df:=h1.df,slot:=fun u=> ?_,obj:=h1.obj,dead:=h1.dead,nd:=h1.nd,ct:=h1.ct,dom:=h1.dom,lt:=h1.lt,kept:=h1.kept,bJ:=h1.bJ,ns:=h1.ns,kb:=h1.kb},h2,h3,h4⟩;rcases hw u with e|e;·{simp only[e];exact h1.slot u};·simp only[e];exact .aU
section
variable{C:aB}{f:FuncId}{call:eV}{l:Nat}{ys:List (List U)}{z:Option Nat}{Q:Exit→Option Nat→ah→Prop}{c:Code}{n:Nat}{t:Nat→U}{h:Id→Option (Option Rows)}
theorem Y0(L:Nat)(rep:Nat→Nat→U)(h0:sV t (rep 0))(round:∀j,j≤L→iT C f call l ys c (some j) ⟨n,rep j,h⟩ fun e z' S'=>match e with| .normal=>j<L∧z'=some (j+1)∧S'.n=n∧S'.h=h∧sV S'.t (rep (j+1))|e=>Q e z' S'):iT C f call l ys (.loop c) (some 0) ⟨n,t,h⟩ Q:=by intro J cz eX a W gE hS hQ;refine Fs (fun m a W=>∃j,j+m=L∧kq C J cz (some j) ⟨n,rep j,h⟩ a W) L ⟨0,by omega,hS.weak h0⟩ ?_;rintro m a W⟨j,hj,hS⟩;refine round j (by omega) J cz eX a W _ hS fun e z' S' a' W' hq jc=> ?_;cases e with|normal=>(obtain⟨h1,rfl,h2,h3,h4⟩:=hq;obtain⟨n',t',h'⟩:=S';simp only at h2 h3 h4;subst h2 h3;exact⟨m-1,by omega,j+1,by omega,jc.weak h4⟩)|_=>exact hQ _ _ _ _ _ hq jc
end
section
variable{C:aB}{k:FuncId}{fn:Func}{AV sR oc sP uU M7:TypeId}{m off dc:Nat}{y0 y1 bS bt cB b8 cP cg bP dW dZ ec ju pe pg kQ hU hY lH nr pn YW YX YY YZ:TypeId}{qw p1 p2 p3 mj so z7 z8 Xa Xb WV WW WX WY WZ W0 W1 W2 W3 W4 W5 W6 W7 W8 W9:String}{f0 f1 f2 f3 f4 f5 f6 f7 f8 f9 f10 f11 f12 f13 f14 f15 f16 f17 f18 f19 f20 f21 f22 f23 f24:Array Edge}
set_option maxHeartbeats 2000000 in theorem UI [Fd C AV 0 0 1 false][cK C sR false 1][cQ C sR (.slice sP)][cK C sP true m][Fd C sP dc off 1 false][cK C uU false 1][cQ C uU (.slice oc)][cK C oc false 1](hm0:Ha off m=true)(hN:ia C)(hf:C.P.funcs[k]? =some fn)(hn:fn.ntmps=28)(hres:fn.results= #[])(hfz:∀t,(C.dN k).contains t=false)(hb:fn.body=some (.seq (.region 0 ⟨[⟨some 6, .fieldAddr AV (.tmp 1) 0,y0,qw,f0,none⟩,⟨some 7, .load sR (.tmp 6),y1,p1,f1,none⟩,⟨some 8, .load oc (.tmp 2),bS,p2,f2,none⟩,⟨some 9, .indexAddr sR (.tmp 7) (.tmp 8),bt,p3,f3,none⟩,⟨some 10, .fieldAddr sP (.tmp 9) dc,cB,mj,f4,none⟩,⟨some 11, .load uU (.tmp 10),b8,so,f5,none⟩,⟨some 12, .call ⟨.builtin .len,⟨[.tmp 11]⟩,⟨[uU]⟩⟩,cP,z7,f6,none⟩,⟨some 13, .move (.const (.int .i64 0)),cg,z8,f7,none⟩]⟩ false) (.block 0 (.loop (.seq (.region 1 ⟨[⟨some 14, .binOp .lss oc (.tmp 13) (.tmp 12) oc,bP,Xa,f8,none⟩]⟩ false) (.seq (.cond (.tmp 14) .skip (.exit 0)) (.seq (.block 1 (.seq (.region 2 ⟨[⟨some 15, .move (.tmp 13),dW,Xb,f9,none⟩,⟨some 16, .indexAddr uU (.tmp 11) (.tmp 13),dZ,WV,f10,none⟩,⟨some 17, .load oc (.tmp 16),ec,WW,f11,none⟩,⟨some 4, .assign (.tmp 15),ju,WX,f12,none⟩,⟨some 5, .assign (.tmp 17),pe,WY,f13,none⟩]⟩ false) (.seq (.region 3 ⟨[⟨some 18, .move (.tmp 0),pg,WZ,f14,none⟩,⟨some 19, .move (.tmp 4),kQ,W0,f15,none⟩,⟨some 20, .fieldAddr AV (.tmp 1) 0,hU,W1,f16,none⟩,⟨some 21, .load sR (.tmp 20),hY,W2,f17,none⟩,⟨some 22, .move (.tmp 5),lH,W3,f18,none⟩,⟨some 23, .indexAddr sR (.tmp 21) (.tmp 22),nr,W4,f19,none⟩,⟨some 24, .load sP (.tmp 23),pn,W5,f20,none⟩,⟨some 25, .call ⟨.value (.tmp 18),⟨[.tmp 19, .tmp 24]⟩,⟨[oc,sP]⟩⟩,YW,W6,f21,none⟩,⟨some 26, .unOp .not M7 (.tmp 25),YX,W7,f22,none⟩]⟩ false) (.cond (.tmp 26) .ret .skip)))) (.region 4 ⟨[⟨some 27, .binOp .add oc (.tmp 13) (.const (.int .i64 1)) oc,YY,W8,f23,none⟩,⟨some 13, .move (.tmp 27),YZ,W9,f24,none⟩]⟩ false)))))))):mB C k (r7 m off):=by have hm:off<m:=of_decide_eq_true (kz hm0);refine UB (call:=fun _ _=>none) hN (fun _ _ _ h=>by cases h) hf hb hres ?_ ?_ ?_;·{intro caps ys h;unfold r7 at h;split at h;·{simp[hn]};·cases h};·{intro l caps ys h id;unfold r7 at h;split at h;·{rfl};·cases h};intro l caps ys h;rw[hn];unfold r7 at h;split at h;(case h_2=>cases h);rename_i rows k0;split at h;(case isFalse=>cases h);rename_i hall;obtain⟨q,rfl⟩:∃q:List (dL m),rows=q.map dL.v:=by{refine⟨rows.attachWith _ (fun r hr=>List.all_eq_true.1 hall r hr), ?_⟩;exact(List.attachWith_map_subtype_val _).symm};clear hall;simp only[H1]at h;obtain⟨XJ,h1,ks,h2,h3⟩:=h;split at h3;(case isFalse=>cases h3);rename_i hbd;obtain⟨Fw,h4,rfl⟩:=Option.map_eq_some_iff.1 h3;obtain⟨dK,tM,rfl⟩:∃dK,idx q k0=some dK∧XJ=dK.v:=by{have hb:=wK h1;obtain⟨dK,hr⟩:∃dK,q[k0.toNat]? =some dK:=⟨_,List.getElem?_eq_getElem (by simp at hb;omega)⟩;have:idx q k0=some dK:=by{unfold idx;rw[AC hb.1,hr]};refine⟨dK,this, ?_⟩;rw[CU this]at h1;exact(Option.some.inj h1).symm};obtain⟨rs,S3⟩:∃rs,dK.v.drop off= .sl (ks.map yJ)::rs:=by{unfold IZ at h2;split at h2;·{rename_i ks' rs e;rw[IT h2]at e;exact⟨rs,e⟩};·cases h2};have hlen:∀r:dL m,r.v.length=m:=fun r=>(s7 r).1;have hle:∀r:dL m,Nat.ble off r.v.length=true:=fun r=>Nat.ble_eq_true_of_le (by rw[hlen];omega);have we:Ha 0 m=true:=by{simp[Ha];omega};obtain⟨RH,gg⟩:=I0 h4;have T9:(Fw.map (wX id)).length=ks.length:=by{simp[RH]};rw[T9];let st:Nat→Nat→U:=fun j=>ai (ai (ai (ai (ai (ai (fun _=> .aU) 0 (.fn (.yield l) [] [])) 1 (.aL [.sl (q.map dL.v)])) 2 (.aL [.val (.int .i64 k0)])) 11 (.sl (ks.map yJ))) 12 (.val (.int .i64 ks.length))) 13 (.val (.int .i64 (j:Int)));show iT C k (fun _ _=>none) l (Fw.map (wX id)) _ (some 0) ⟨28,ai (ai (ai (fun _=> .aU) 2 (.aL [.val (.int .i64 k0)])) 1 (.aL [.sl (q.map dL.v)])) 0 (.fn (.yield l) [] []),fun _=>none⟩ _;refine AI<|fT (bq (C:=C) (hz:=hfz _))<|fT aO<|fT aO<|fT (fH tM (h0:=we) (hr:=hlen _))<|fT (bq (hl:=hle _) (hz:=hfz _))<|fT (aO (hv:=S3))<|fT eO<|fT aa<|uP<|Lx<|Y0 ks.length st ?_ ?_;·{exact mA (mA (mA (mA (mA (mA Lo)))))};intro j hj;refine AI<|fT (fC (a:=(j:Int)) (b:=(ks.length:Int)))<|uP ?_;rcases GT j ks.length with hlt|hge;·{have hd:decide ((j:Int)<(ks.length:Int))=true:=by{simp;omega};obtain⟨x,hx⟩:∃x,ks[j]? =some x:=⟨_,List.getElem?_eq_getElem hlt⟩;have Tq:idx ks (j:Int)=some x:=by{unfold idx;rw[AC (by omega)];simpa using hx};obtain⟨nd,hnd,hy⟩:=gg j x hx;obtain⟨nd,ld,rfl⟩:∃r,idx q x=some r∧nd=r.v:=by{have hb:=wK hnd;obtain⟨r,hr⟩:∃r,q[x.toNat]? =some r:=⟨_,List.getElem?_eq_getElem (by simp at hb;omega)⟩;have:idx q x=some r:=by{unfold idx;rw[AC hb.1,hr]};refine⟨r,this, ?_⟩;rw[CU this]at hnd;exact(Option.some.inj hnd).symm};have Ue:(Fw.map (wX id))[j]? =some [.val (.int .i64 (j:Int)), .agg nd.v]:=by{rw[List.getElem?_map,hy];simp[wX]};have htk:nd.v.take m=nd.v:=List.take_of_length_le (by rw[hlen];omega);refine AH (AG (bb:=true) (by rw[←hd];rfl) (Lz ?_));refine AH (Lx ?_);refine AI<|fT aa<|fT (fH (c:=yJ) Tq)<|fT aO<|fT af<|fT af<|uP ?_;refine AI<|fT (aa (v:= .fn (.yield l) [] []) (h:=rfl))<|fT aa<|fT (bq (hz:=hfz _))<|fT aO<|fT aa<|fT (fH ld (h0:=we) (hr:=hlen _))<|fT (gM (hl:=Nat.ble_eq_true_of_le (by rw[hlen];omega)) (hv:=htk))<|Y4 rfl Ue rfl ?_ ?_ ?_;·{have:=(s7 nd).2.2.1;simp[dG,eC,this]};·{refine fT e9<|uP<|AG (bb:=false) rfl (Lz ?_);have hw:(IntKind.i64.wrap ((j:Int)+1))=((j+1:Nat):Int):=by{simp only[IntKind.wrap,IntKind.bits,IntKind.signed];simp;split<;>omega};refine Ly<|fT eY<|fT aa<|uP ⟨hlt,rfl,rfl,rfl, ?_⟩;exact mA (mA (mA (mA (mA (mA Lo))))) (by show U.val (.int .i64 (IntKind.i64.wrap ((j:Int)+1)))=_;rw[hw])};·exact fT e9<|uP<|AG (bb:=true) rfl (Y2 ⟨.inr rfl, .inr rfl⟩)};·have hd:decide ((j:Int)<(ks.length:Int))=false:=by{simp;omega};refine AH (AG (bb:=false) (by rw[←hd];rfl) (Y1 ?_));obtain rfl:j=ks.length:=by{omega};exact⟨.inl rfl, .inl rfl⟩
end
end Go.Ab
namespace Go.Ab
open Go
def ku(P:Program)(bJ:Nat→Option (List U)):aB:={P:=P,bJ:=bJ,ext:=fun _=>none,bL:=fun _=>[],dN:=fun _=>[],live:=fun _ _=>[],iV:=fun _ _=>[]}
theorem Ow{P:Program}{bJ:Nat→Option (List U)}(h:mC P):ia (ku P bJ):=⟨h,(fun k p(h:(none:Option (Nat×Nat))=some p)=>by cases h),(fun k(h:false=true)=>by cases h)⟩
theorem Ox{P:Program}{bJ:Nat→Option (List U)}:nv (ku P bJ):=⟨(fun f i b l(h:(none:Option (Bool×List Nat))=some (b,l))=>by cases h),(fun f i b l(h:(none:Option (Bool×List Nat))=some (b,l))=>by cases h),(fun f i b l(h:(none:Option (Bool×List Nat))=some (b,l))=>by cases h)⟩
theorem U7{C:aB}{k:FuncId}{fn:Func}{c:Code}(SH:mC C.P)(hw:C.P.follows .mixedOrders=true)(hf:C.P.funcs[k]? =some fn)(hb:fn.body=some c)(hok:lz (ku C.P C.bJ) k c=true)(hle:C.bL k=[])(h:∀{us:List Value}{i c:Int}{cells:List U}{ks:Rows}{u:Value},(∀u∈us,dw u=true)→cells[4]? =some (.sl ks)→ks[i.toNat]? =some [.val (.int .i64 c)]→us[c.toNat]? =some u→0≤i→0≤c→den (ku C.P C.bJ) 1 k [.val (.int .i64 i), .aL [.sl (us.map fun u=>[.val u])], .aL cells]=some (.val u,[])):sN C k:=by intro w bZ vs us i c cells ks u lf hargs h4 hk hu hi hc hI hg;have hs:Sound (ku C.P C.bJ) k [.val (.int .i64 i), .aL [.sl (us.map fun u=>[.val u])], .aL cells] (.val u,[]):=JJ (Ow SH) hw (fun _ _=>eE.nil) Ox (fun k it(h:(none:Option (List U→Option (List (List U))))=some it)=>by cases h) (fun k(h:false=true)=>by cases h) (fun g a r(h:(none:Option (List U→Option (U×List U)))=some g)=>by cases h) (fun fn' c' _ h1 h2=>by have h1:C.P.funcs[k]? =some fn':=h1;rw[hf]at h1;obtain rfl:=H2 h1;rw[hb]at h2;obtain rfl:=H2 h2;exact hok) (call:=den (ku C.P C.bJ) 0) (fun k as r(h:(none:Option (U×List U))=some r)=>by cases h) ua (h lf h4 hk hu hi hc);have:=hs.1 rfl w bZ [] vs hargs Hb (fun b hb=>⟨hI b hb,by simp⟩) (fun b hb=>by cases hb) hg;have post:∀v w',qT w [] bZ (nU ((ku C.P C.bJ).bL k) vs) (.val u,[]) v w'→v=u∧Kept w w' (fun _=>False):=fun v w' hr=>by{obtain⟨I',fr,g1,_,_,_⟩:=hr.ex;obtain⟨f1,f2,v1,vs',_,e1,k1,_⟩:=aj.cons_inv g1;simp only[List.cons.injEq]at e1;obtain⟨rfl,_⟩:=e1;exact⟨k1.e6.2,⟨hr.kept.size,fun b hb _=>hr.kept.blk b hb (by simp),hr.kept.os,hr.kept.out,hr.kept.dN,hr.kept.ke⟩⟩};rcases this with⟨fn',c',q1,eD,jk⟩|⟨v,w',q1,eD⟩;·{exact .inl ⟨fn',c',q1,eD,jk.mono fun e w' hh=>by obtain⟨v,rfl,hr⟩:=hh;exact⟨v,rfl,post v w' hr⟩⟩};·exact .inr ⟨v,w',q1,post v w' eD⟩
end Go.Ab
