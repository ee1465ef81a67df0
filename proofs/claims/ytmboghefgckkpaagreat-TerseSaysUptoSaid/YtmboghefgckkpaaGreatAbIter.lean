import Derived.Test.YtmboghefgckkpaaGreatAbV11
namespace Go.Ab
open Go
abbrev A6:=Nat→(Nat→Prop)→World→Prop
def A5(J:A6):Prop:=∀i X Y W W',J i X W→Kept W W' (fun _=>False)→(∀b,Y b→(X b∨W.heap.size≤b)∧b<W'.heap.size)→J i Y W'
def Iz(J dJ:A6):Option Nat→(Nat→Prop)→World→Prop|some i,X,W=>J i X W|none,X,W=>∃i,dJ i X W
def oC(C:aU)(J dJ:A6)(z:Option Nat)(S:an)(a:Act)(W:World):Prop:=a.defers=[]∧∃E β F,aV C E W S a β F∧(∀b,¬E.fG b)∧(∀id,S.h id=none)∧Iz J dJ z (aQ E W F) W
/-! ### Operations that defer nothing -/
def GQ:Op→Bool| .move _| .assign _| .load _ _| .fieldAddr _ _ _| .indexAddr _ _ _| .binOp _ _ _ _ _| .unOp _ _ _| .field _ _ _| .extract _ _| .box _ _| .alloc _| .build _ _=>true| .call c=>(match c.callee with| .builtin .len=>true|_=>false)|_=>false
theorem WD{P:Program}{w w':World}{s:Sem Value}{d:Deferred}:(do pure (Next.value (←s)):Sem Next).run P w≠ .ok (.defer d) w':=by intro h;rw[Sem.run_bind]at h;cases hs:s.run P w with|ok v w1=>(rw[hs]at h;simp at h)|halt x w1=>rw[hs]at h;cases h
theorem alG{P:Program}{ρ:Operand→Value}{o:Oper}{w w':World}{d:Deferred}(hp:GQ o.op=true):(execOp ρ o).run P w≠ .ok (.defer d) w':=by
 unfold GQ at hp
 split at hp
 all_goals try(rename_i ho;unfold execOp;rw[ho];exact WD)
 ·rename_i ho;unfold execOp;rw[ho];intro h;cases h
 ·rename_i ho;unfold execOp;rw[ho];intro h;cases h
 ·rename_i c ho
  split at hp
  ·rename_i hc
   have e:execOp ρ o=builtin .len c.argTypes o.type (c.args.map fun| .const _=>true|_=>false) (c.args.map ρ):=by
    unfold execOp;rw[ho];simp only[resolve,hc];rfl
   rw[e]
   exact WD
  ·cases hp
 ·cases hp
theorem alF{o:Oper}(hp:GQ o.op=true)(c:Call):o.op≠ .defer c:=fun e=>by rw[e]at hp;cases hp
section
variable{C:aU}{f:FuncId}{call:hM}{J dJ:A6}{z:Option Nat}{S:an}{a:Act}{W w:World}
theorem aoc{P:Program}{o:Oper}{next next':Act→World→Prop}{Q:Exit→Act→World→Prop}(hp:GQ o.op=true)(h:o.wp P a w next Q)(hn:∀w' v,next (a.put o.dst v) w'→next' (a.put o.dst v) w'):o.wpIn Fence.wide 0 P a w next' Q:=by refine⟨fun f _=>Iu none f, ?_⟩;rw[Oper.semAt_eq _ _ _ (alF hp)];unfold Oper.wp at h;have ct:∀d w',(execOp a.eval o).run P w≠ .ok (.defer d) w':=fun d w'=>alG hp;generalize(execOp a.eval o).run P w=r at*;cases r with|ok x w'=>(cases x with|value v=>(exact hn _ v h)|skip=>(exact hn _ undef h)|defer d=>(exact absurd rfl (ct d w'))|enter f args=>(exact⟨A3 none,Rv (ro:=none) (h.mono fun e w'' he=>by cases e<;>first|exact hn _ _ he|exact he)⟩)|row row args=>(exact⟨A3 none,Wq (ro:=none) (h.mono fun v w'' he=>hn _ _ he)⟩)|round l f tmps assign body=>(exact h.elim)|_=>exact h)|halt x w'=>cases x<;>exact h
theorem oC.start(vq:A5 J)(FB:A5 dJ)(h:oC C J dJ z S a W):a.defers=[]∧∃E β F,aV C E W S a β F∧E.w0=W∧(∀b,¬E.fG b)∧(∀id,F id=[])∧(∀id,S.h id=none)∧Iz J dJ z (aQ E W F) W:=by obtain⟨h0,E,β,F,h1,h2,h3,h4⟩:=h;have hF:∀id,F id=[]:=fun id=>h1.dead id (by rw[h3];simp);refine⟨h0,E.at W F,β,F,h1.KO,rfl,fun b hb=> ?_,hF,h3, ?_⟩;·{obtain⟨id,hm⟩:=hb;rw[hF]at hm;cases hm};·have key:∀b,aQ (E.at W F) W F b→(aQ E W F b∨W.heap.size≤b)∧b<W.heap.size:=fun b hb=>⟨.inl (P1.1 hb),hb.2.1⟩;cases z with|some i=>(exact vq _ _ _ _ _ h4 (Kept.refl _ _) key)|none=>obtain⟨i,h4⟩:=h4;exact⟨i,FB _ _ _ _ _ h4 (Kept.refl _ _) key⟩
theorem oC.fin{E:Env}{F:Id→List Nat}(vq:A5 J)(FB:A5 dJ)(h0:E.w0=W)(hE:∀b,¬E.fG b)(hF:∀id,F id=[])(hj:Iz J dJ z (aQ E W F) W){S':an}{a':Act}{w':World}(hS:bO C E S' a' w')(hh:∀id,S'.h id=none)(hd:a'.defers=[]):oC C J dJ z S' a' w':=by subst h0;obtain⟨β',F',h'⟩:=hS;have hk:Kept E.w0 w' (fun _=>False):=⟨h'.kept.size,fun b h1 _=>h'.kept.dh b h1 (hE b),h'.kept.os,h'.kept.out,h'.kept.e7,h'.kept.qx⟩;have key:∀b,aQ E w' F' b→(aQ E E.w0 F b∨E.w0.heap.size≤b)∧b<w'.heap.size:=fun b hb=>⟨by rcases Nat.lt_or_ge b E.w0.heap.size with h|h;·{refine .inl ⟨?_,h,fun id hm=>by rw[hF]at hm;cases hm⟩;rcases hb.1 with h1|h1|h1;·{exact .inl h1};·{exact absurd h1 (hE b)};·omega};·exact .inr h,hb.2.1⟩;refine⟨hd,E,β',F',h',hE,hh, ?_⟩;cases z with|some i=>(exact vq _ _ _ _ _ hj hk key)|none=>obtain⟨i,hj⟩:=hj;exact⟨i,FB _ _ _ _ _ hj hk key⟩
/-! ### The walk -/
structure QW(C:aU)(call:hM)(l:Nat)(ys:List (List aa))(J dJ:A6):Prop where
 n:lJ C
 calls:∀k as r,call k as=some r→Sound C k as r
 j:A5 J
 J7:A5 dJ
 y:∀i X W vs y,J i X W→ys[i]? =some y→aH W X cv [] vs y→YieldAt Fence.wide 0 C.P l ⟨vs⟩ W fun e W'=>((e= .returned (.bool true)∧J (i+1) X W')∨(e= .returned (.bool false)∧dJ (i+1) X W'))∧∀b,X b→W'.heap[b]? =W.heap[b]?
def l8(C:aU)(f:FuncId)(call:hM)(l:Nat)(ys:List (List aa))(c:Code)(z:Option Nat)(S:an)(Q:Exit→Option Nat→an→Prop):Prop:=∀J dJ,QW C call l ys J dJ→∀a W jY,oC C J dJ z S a W→(∀e z' S' a' W',Q e z' S'→oC C J dJ z' S' a' W'→jY e a' W')→c.wpIn Fence.wide 0 C.P jY a W
def va(C:aU)(f:FuncId)(call:hM)(l:Nat)(ys:List (List aa))(ops:Array Oper)(i:Nat)(os:List Oper)(z:Option Nat)(S:an)(Q:Option Nat→an→Prop):Prop:=(∀j,os[j]? =ops[i+j]?)→∀J dJ,QW C call l ys J dJ→∀a W jY,oC C J dJ z S a W→(∀z' S' a' W',Q z' S'→oC C J dJ z' S' a' W'→jY .normal a' W')→wpOpsIn Fence.wide 0 C.P ops jY (List.range' i os.length) a W
end
section
variable{C:aU}{f:FuncId}{call:hM}{l:Nat}{ys:List (List aa)}{z:Option Nat}{S:an}{Q:Exit→Option Nat→an→Prop}{c b:Code}{ops:Array Oper}{i n d:Nat}{os:List Oper}{K:Option Nat→an→Prop}
variable{t:Nat→aa}{h:Id→Option (Option Rows)}{op:Op}{ty:TypeId}{pos:String}{bn:Array Edge}{v:aa}
theorem Ed(k:K z S):va C f call l ys ops i [] z S K:=fun _ J dJ _ a W jY hS hQ=>hQ _ _ _ _ k hS
theorem iV(he:bN C f call ⟨n,t,h⟩ true ⟨some d,op,ty,pos,bn,none⟩=some ⟨[(d,v)],[],[]⟩)(k:va C f call l ys ops (i+1) os z ⟨n,aC t d v,h⟩ K)(hs:Nat.blt d n=true:=by exact rfl)(hp:GQ op=true:=by exact rfl):va C f call l ys ops i (⟨some d,op,ty,pos,bn,none⟩::os) z ⟨n,t,h⟩ K:=by intro hl J dJ gE a W jY hS hQ;have h0:ops[i]? =some ⟨some d,op,ty,pos,bn,none⟩:=by{simpa using(hl 0).symm};obtain⟨g0,E,β,F,g1,g2,g3,g4,fV,gQ⟩:=hS.start gE.j gE.J7;rw[List.length_cons,List.range'_succ,wpOpsIn_cons];unfold wpOpIn;simp only[h0];have hw:Region.wanted (⟨some d,op,ty,pos,bn,none⟩:Oper) (yielded ops a.tmps)=true:=rfl;rw[if_pos hw];have hlt:d<n:=of_decide_eq_true (m4 hs);refine aoc hp (Kw (next:=bO C E ⟨n,aC t d v,h⟩) gE.n gE.calls g1 he (by simp[cQ,hlt]) fun a' w' hx=>hx) fun w' u hx=> ?_;exact k (fun j=>by have:=hl (j+1);simpa[Nat.add_assoc,Nat.add_comm 1 j]using this) J dJ gE _ _ jY (oC.fin (E:=E) (F:=F) gE.j gE.J7 g2 g3 g4 gQ hx fV (by rw[put_defers];exact g0)) hQ
theorem aom{cS:Operand}{xs:List Operand}{ts:Array TypeId}{k:Nat}{y:List aa}(hfo:un true ((⟨n,t,h⟩:an).get C cS)= .fn (.yield l) [] [])(hy:ys[k]? =some y)(hxs:(xs.map fun x=>un true ((⟨n,t,h⟩:an).get C x))=y)(hi:eJ y=true)(k1:va C f call l ys ops (i+1) os (some (k+1)) ⟨n,aC t d (.val (.bool true)),h⟩ K)(k2:va C f call l ys ops (i+1) os none ⟨n,aC t d (.val (.bool false)),h⟩ K)(hs:Nat.blt d n=true:=by exact rfl):va C f call l ys ops i (⟨some d, .call ⟨.value cS,⟨xs⟩,ts⟩,ty,pos,bn,none⟩::os) (some k) ⟨n,t,h⟩ K:=by intro hl J dJ gE a W jY hS hQ;have h0:ops[i]? =some ⟨some d, .call ⟨.value cS,⟨xs⟩,ts⟩,ty,pos,bn,none⟩:=by{simpa using(hl 0).symm};obtain⟨g0,E,β,F,g1,g2,g3,g4,fV,gQ⟩:=hS.start gE.j gE.J7;have hlt:d<n:=of_decide_eq_true (m4 hs);have nS:=g1.eD cS;rw[hfo]at nS;obtain⟨_,v1,v2,nS,r1,r2⟩:=nS.so;obtain⟨_,rfl⟩:=r1.gv;obtain⟨_,rfl⟩:=r2.gv;have hargs:=aH.ofMap g1 xs;rw[hxs]at hargs;have agw:aH W (aQ E W F) cv [] (xs.map a.eval) y:=aH.oT hargs hi;obtain⟨fn,tmps,assign,body,hrun,hR⟩:=gE.y k _ W _ y gQ hy agw;rw[List.length_cons,List.range'_succ,wpOpsIn_cons];unfold wpOpIn;simp only[h0];have hw:Region.wanted (⟨some d, .call ⟨.value cS,⟨xs⟩,ts⟩,ty,pos,bn,none⟩:Oper) (yielded ops a.tmps)=true:=rfl;rw[if_pos hw];refine⟨fun f _=>Iu none f, ?_⟩;rw[Oper.semAt_eq _ _ _ (fun c e=>by cases e)];have hex:(execOp a.eval (⟨some d, .call ⟨.value cS,⟨xs⟩,ts⟩,ty,pos,bn,none⟩:Oper)).run C.P W= .ok (.round l fn tmps assign body) W:=by{have e1:(⟨xs⟩:Array Operand).map a.eval=⟨xs.map a.eval⟩:=by{apply Array.ext';simp};simp only[execOp,resolve,nS];rw[e1];simpa[invoke,go_sem]using hrun};rw[hex,Oper.uponIn_round];refine⟨A3 none,hR.mono ?_⟩;have fin:∀(z':Option Nat)(bb:Bool)(W':World),(Iz J dJ z' (aQ E W F) W')→(∀b,aQ E W F b→W'.heap[b]? =W.heap[b]?)→va C f call l ys ops (i+1) os z' ⟨n,aC t d (.val (.bool bb)),h⟩ K→wpOpsIn Fence.wide 0 C.P ops jY (List.range' (i+1) os.length) (a.put (some d) (.bool bb)) W':=by{intro z' bb W' hj hb Ka;have tO:∀b,aQ E W F b→b<W'.heap.size:=fun b hb'=>by{have:=hb b hb';rcases Nat.lt_or_ge b W'.heap.size with h1|h1;·{exact h1};·rw[Array.getElem?_eq_none h1,Array.getElem?_eq_getElem hb'.2.1]at this;cases this};have BY:∀(id:Id)(b:Nat),b∉F id:=fun id b hm=>by{rw[g4]at hm;cases hm};let E':Env:={w0:=W',fG:=fun _=>False,dx:=aQ E W F,m:=0,le:=Nat.zero_le _};have p6:∀b,aQ E W F b→aQ E' W' F b:=fun b hb'=>⟨.inl hb',tO b hb',fun id=>BY id b⟩;refine Ka (fun j=>by have:=hl (j+1);simpa[Nat.add_assoc,Nat.add_comm 1 j]using this) J dJ gE _ _ jY ⟨by rw[put_defers];exact g0,E',β,F, ?_,fun _ h=>h,fV, ?_⟩ hQ;·{refine{n:=(by rw[vQ];exact g1.n),df:=(by rw[put_defers,g0];exact jX.nil (d0:=[])),slot:=fun t'=> ?_,obj:=fun id rows hr=>(by rw[fV]at hr;cases hr),dead:=fun id _=>g4 id,nd:=fun id=>(by rw[g4];exact List.nodup_nil),dK:=fun i j b hm=>absurd hm (BY i b),dom:=g1.dom,lt:=fun id b hm=>absurd hm (BY id b),kept:=Kept.refl _ _,cP:=fun g cs hg=>(g1.cP g cs hg).mono p6 (fun b hb'=>hb b (by rcases hb' with h1|h1<;>first|exact h1|cases h1)) (fun _ _ h=>h),ns:=fun _ _ _ h=>h,kb:=fun _ _ h=>h.elim};rw[vP a d t' _ (by rw[g1.n];exact hlt)];by_cases e:t'=d;·{subst e;simp only[if_true,aC];exact .val rfl};·simp only[if_neg e,aC];exact(g1.slot t').mono p6 (fun b hb'=>hb b (by rcases hb' with h1|h1<;>first|exact h1|cases h1)) (fun _ _ h=>h)};·have key:∀b,aQ E' W' F b→(aQ E W F b∨W'.heap.size≤b)∧b<W'.heap.size:=fun b hb'=>⟨by rcases hb'.1 with h1|h1|h1;·{exact .inl h1};·{exact h1.elim};·exact .inr h1,hb'.2.1⟩;cases z' with|some i=>(exact gE.j _ _ _ _ _ hj (Kept.refl _ _) key)|none=>obtain⟨i,hj⟩:=hj;exact⟨i,gE.J7 _ _ _ _ _ hj (Kept.refl _ _) key⟩};rintro e W'⟨⟨rfl,hj⟩|⟨rfl,hj⟩,hb⟩;·{exact fin (some (k+1)) true W' hj hb k1};·exact fin none false W' ⟨_,hj⟩ hb k2
theorem X4{id:Nat}(k:va C f call l ys ⟨os⟩ 0 os z S fun z' S'=>Q .normal z' S'):l8 C f call l ys (.region id ⟨os⟩ false) z S Q:=fun J dJ gE a W jY hS hQ=>by refine wpIn_region ?_;have:=k (fun j=>by simp) J dJ gE a W jY hS (fun z' S' a' W' hq=>hQ _ _ _ _ _ hq);simpa[List.range_eq_range']using this
theorem K9{a:Code}(k:l8 C f call l ys a z S fun e z' S'=>match e with| .normal=>l8 C f call l ys b z' S' Q|e=>Q e z' S'):l8 C f call l ys (.seq a b) z S Q:=fun J dJ gE ac W jY hS hQ=>by refine wpIn_seq (k J dJ gE ac W _ hS fun e z' S' a' W' hq mA=> ?_);cases e with|normal=>(exact hq J dJ gE _ _ _ mA hQ)|_=>exact hQ _ _ _ _ _ hq mA
theorem La{id:Nat}(k:va C f call l ys ⟨os⟩ 0 os z S fun z' S'=>l8 C f call l ys b z' S' Q):l8 C f call l ys (.seq (.region id ⟨os⟩ false) b) z S Q:=K9 (X4 k)
theorem X5(k:Q .normal z S):l8 C f call l ys .skip z S Q:=fun J dJ gE a W jY hS hQ=>wpIn_skip (hQ _ _ _ _ _ k hS)
theorem aok(k:Q .ret z S):l8 C f call l ys .ret z S Q:=fun J dJ gE a W jY hS hQ=>wpIn_ret (hQ _ _ _ _ _ k hS)
theorem aoj{j:Nat}(k:Q (.exit j) z S):l8 C f call l ys (.exit j) z S Q:=fun J dJ gE a W jY hS hQ=>wpIn_exit (hQ _ _ _ _ _ k hS)
theorem K8{x:Operand}{bb:Bool}{c1 c2:Code}(hx:un true (S.get C x)= .val (.bool bb))(k:l8 C f call l ys (if bb then c1 else c2) z S Q):l8 C f call l ys (.cond x c1 c2) z S Q:=fun J dJ gE a W jY hS hQ=>by have hv:a.eval x= .bool bb:=by{obtain⟨_,E,β,F,g1,_⟩:=hS;have:=g1.eD x;rw[hx]at this;exact this.hJ.2};exact wpIn_cond hv (by have:=k J dJ gE a W jY hS hQ;cases bb<;>exact this)
theorem X3{j:Nat}(k:l8 C f call l ys c z S fun e z' S'=>Q (match e with| .exit i=>if i=j then .normal else .exit i|e=>e) z' S'):l8 C f call l ys (.block j c) z S Q:=fun J dJ gE a W jY hS hQ=>by refine wpIn_block (k J dJ gE a W _ hS fun e z' S' a' W' hq mA=> ?_);cases e with|exit i=>(simp only[Exit.inBlock];simp only at hq;split at hq;·{rename_i e;subst e;simpa using hQ _ _ _ _ _ hq mA};·rename_i e;simpa[e]using hQ _ _ _ _ _ hq mA)|_=>exact hQ _ _ _ _ _ hq mA
end
theorem aiB{C:aU}{k:FuncId}{fn:Func}{c:Code}{call:hM}{it:List aa→Option (List (List aa))}(bA:lJ C)(eY:∀k as r,call k as=some r→Sound C k as r)(hf:C.P.funcs[k]? =some fn)(hb:fn.body=some c)(hres:fn.results= #[])(hnt:∀caps ys,it caps=some ys→1+caps.length≤fn.ntmps)
  (hh:∀l caps ys,it caps=some ys→∀id,(aG fn.ntmps (List.range (1+caps.length)) (.fn (.yield l) [] []::caps)).h id=none)
  (hw:∀l caps ys,it caps=some ys→l8 C k call l ys c (some 0) (aG fn.ntmps (List.range (1+caps.length)) (.fn (.yield l) [] []::caps)) fun e z _=>(e= .normal∨e= .ret)∧(z=some ys.length∨z=none)):tc C k it:=by
 refine⟨⟨fn,c,hf,hb⟩,fun caps ys hit w0 I cs hcs hI M9 l J dJ W hW vq FB hy h0=> ?_⟩
 refine callsIn_of_wp hf hb trivial ?_
 have hvl:=hcs.length
 let vs:List Value:= .func (.yield l) #[] #[]::cs
 let args:List aa:= .fn (.yield l) [] []::caps
 have F8:vs.length=args.length:=by simp[vs,args,hvl]
 have aqs:=hnt caps ys hit
 have agC:aH W I cv [] cs caps:=hcs.mono (fun _ h=>h) (fun b hb=>hW b (by rcases hb with h|h<;>first|exact h|cases h)) (fun _ _ h=>h)
 have hargs:aH W I cv [] vs args:=R.cons (f1:=[]) (f2:=[]) (.fn .nil .nil) agC
 have af3:∀b,I b→b<W.heap.size:=fun b hb=>by
  have :=hW b hb
  rcases Nat.lt_or_ge b W.heap.size with h1|h1
  ·exact h1
  ·rw[Array.getElem?_eq_none h1,Array.getElem?_eq_getElem (hI b hb)]at this;cases this
 have mC:(List.range args.length).map ((⟨vs⟩++Array.replicate (fn.ntmps-(⟨vs⟩:Array Value).size) undef:Array Value).getD · undef)=vs:=by
  apply List.ext_getElem?
  intro k
  rw[List.getElem?_map]
  rcases Nat.lt_or_ge k args.length with hk|hk
  ·rw[List.getElem?_range hk]
   simp only[Option.map_some]
   rw[Array.getD_eq_getD_getElem?,Array.getElem?_append_left (by simpa[F8]using hk)]
   have :k<vs.length:=by omega
   simp[this]
  ·rw[List.getElem?_eq_none (by simpa using hk),List.getElem?_eq_none (by omega)]
   rfl
 let E:Env:={w0:=W,fG:=fun _=>False,dx:=I,m:=W.heap.size,le:=Nat.le_refl _}
 have BR:bO C E (aG fn.ntmps (List.range args.length) args) {tmps:=⟨vs⟩++Array.replicate (fn.ntmps-(⟨vs⟩:Array Value).size) undef,defers:=[]} W:=by
  refine aV.enter (I:=I) (f:=[]) ?_ (jX.nil (d0:=[])) ?_ List.nodup_range List.nodup_nil (fun b hb=>⟨.inl hb,af3 b hb,by simp⟩) (fun b hb=>by cases hb) (Kept.refl W _) (fun g cs hg=> ?_) (fun _ _ _ h=>h) (fun _ _ _ h=>h)
  ·have :args.length=1+caps.length:=by simp[args];omega
   simp[F8];omega
  ·rw[mC];exact hargs
  ·exact(M9 g cs hg).mono (fun _ h=>h) (fun b hb=>hW b (by rcases hb with h|h<;>first|exact h|cases h)) (fun _ _ h=>h)
 have hlen:args.length=1+caps.length:=by simp[args];omega
 obtain⟨β,F,hS⟩:=BR
 have Tv:∀id,(aG fn.ntmps (List.range args.length) args).h id=none:=by rw[hlen];exact hh l caps ys hit
 have hF:∀id,F id=[]:=fun id=>hS.dead id (by rw[Tv];simp)
 have agu:oC C J dJ (some 0) (aG fn.ntmps (List.range (1+caps.length)) args) {tmps:=⟨vs⟩++Array.replicate (fn.ntmps-(⟨vs⟩:Array Value).size) undef,defers:=[]} W:=by
  rw[←hlen]
  refine⟨rfl,E,β,F,hS,fun _ h=>h,Tv, ?_⟩
  exact vq _ _ _ _ _ h0 (Kept.refl _ _) fun b hb=>⟨by
   rcases hb.1 with h1|h1|h1
   ·exact .inl h1
   ·exact h1.elim
   ·exact .inr h1,hb.2.1⟩
 refine hw l caps ys hit J dJ ⟨bA,eY,vq,FB,hy⟩ _ _ _ agu ?_
 rintro e z S' a' W'⟨he,hz⟩⟨hd,E',β',F',_,_,_,hj⟩
 have hq:(∃X,J ys.length X W')∨∃i X,dJ i X W':=by
  rcases hz with rfl|rfl
  ·exact .inl ⟨_,hj⟩
  ·obtain⟨i,hj⟩:=hj;exact .inr ⟨i,_,hj⟩
 have hr:∃v,(results fn a'.tmps).run C.P W'= .ok v W':=⟨.tuple #[],by simp[results,hres]⟩
 obtain⟨v,hr⟩:=hr
 rcases he with rfl|rfl
 ·exact⟨hd,v,hr,⟨v,rfl⟩,hq⟩
 ·exact⟨hd,v,hr,⟨v,rfl⟩,hq⟩
end Go.Ab
