import Derived.Test.YtbbhbdlljfffdaaGreatDoorAbV14
import Derived.Test.YtbbhbdlljfffdaaGreatDoorAbClone
open Array renaming replicate→Hb,getElem?_eq_none→Hk,getElem?_eq_getElem→Hm
open List renaming range→AC,nodup_nil→Ha,length_cons→Hc,range'_succ→Hd,getElem?_eq_none→H0
open Nat renaming lt_or_ge→Do,blt→GE
open Option renaming bind_eq_some_iff→GT,map_some→Hn,bind_some→H2
open Option.some renaming injEq→H1,inj→H3
set_option linter.all false
namespace Go.Ab
open Go
abbrev x4:=Nat→(Nat→Prop)→World→Prop
def xZ(J:x4):Prop:=∀i X Y W W',J i X W→Kept W W' (fun _=>False)→(∀b,Y b→(X b∨W.heap.size≤b)∧b<W'.heap.size)→J i Y W'
def DQ(J c5:x4):Option Nat→(Nat→Prop)→World→Prop|some i,X,W=>J i X W|none,X,W=>∃i,c5 i X W
def nc(C:aF)(J c5:x4)(z:Option Nat)(S:ah)(a:Act)(W:World):Prop:=a.defers=[]∧∃E β F,aL C E W S a β F∧(∀b,¬E.eM b)∧(∀id,S.h id=none)∧DQ J c5 z (az E W F) W
/-! ### Operations that defer nothing -/
def C6:Op→Bool| .move _| .assign _| .load _ _| .fieldAddr _ _ _| .indexAddr _ _ _| .binOp _ _ _ _ _| .unOp _ _ _| .field _ _ _| .extract _ _| .box _ _| .alloc _| .build _ _=>true| .call c=>(match c.callee with| .builtin .len=>true|_=>false)|_=>false
theorem S6{P:Program}{w w':World}{s:Sem Value}{d:Deferred}:(do pure (Next.value (←s)):Sem Next).run P w≠ .ok (.defer d) w':=by intro h;rw[Sem.run_bind]at h;cases hs:s.run P w with|ok v w1=>(rw[hs]at h;simp at h)|halt x w1=>rw[hs]at h;cases h
theorem aht{P:Program}{ρ:Operand→Value}{o:Oper}{w w':World}{d:Deferred}(hp:C6 o.op=true):(execOp ρ o).run P w≠ .ok (.defer d) w':=by
 unfold C6 at hp
 split at hp
 all_goals try(rename_i ho;unfold execOp;rw[ho];exact S6)
 ·rename_i ho;unfold execOp;rw[ho];intro h;cases h
 ·rename_i ho;unfold execOp;rw[ho];intro h;cases h
 ·rename_i c ho
  split at hp
  ·rename_i hc
   have e:execOp ρ o=builtin .len c.argTypes o.type (c.args.map fun| .const _=>true|_=>false) (c.args.map ρ):=by
    unfold execOp;rw[ho];simp only[resolve,hc];rfl
   rw[e]
   exact S6
  ·cases hp
 ·cases hp
theorem ahs{o:Oper}(hp:C6 o.op=true)(c:Call):o.op≠ .defer c:=fun e=>by rw[e]at hp;cases hp
section
variable{C:aF}{f:FuncId}{call:fO}{J c5:x4}{z:Option Nat}{S:ah}{a:Act}{W w:World}
theorem ajB{P:Program}{o:Oper}{next next':Act→World→Prop}{Q:Exit→Act→World→Prop}(hp:C6 o.op=true)(h:o.wp P a w next Q)(hn:∀w' v,next (a.put o.dst v) w'→next' (a.put o.dst v) w'):o.wpIn Fence.wide 0 P a w next' Q:=by refine⟨fun f _=>DL none f, ?_⟩;rw[Oper.semAt_eq _ _ _ (ahs hp)];unfold Oper.wp at h;have hnd:∀d w',(execOp a.eval o).run P w≠ .ok (.defer d) w':=fun d w'=>aht hp;generalize(execOp a.eval o).run P w=r at*;cases r with|ok x w'=>(cases x with|value v=>(exact hn _ v h)|skip=>(exact hn _ undef h)|defer d=>(exact absurd rfl (hnd d w'))|enter f args=>(exact⟨xX none,NQ (ro:=none) (h.mono fun e w'' he=>by cases e<;>first|exact hn _ _ he|exact he)⟩)|row row args=>(exact⟨xX none,SR (ro:=none) (h.mono fun v w'' he=>hn _ _ he)⟩)|round l f tmps assign body=>(exact h.elim)|_=>exact h)|halt x w'=>cases x<;>exact h
theorem nc.start(ue:xZ J)(BB:xZ c5)(h:nc C J c5 z S a W):a.defers=[]∧∃E β F,aL C E W S a β F∧E.w0=W∧(∀b,¬E.eM b)∧(∀id,F id=[])∧(∀id,S.h id=none)∧DQ J c5 z (az E W F) W:=by obtain⟨h0,E,β,F,h1,h2,h3,h4⟩:=h;have hF:∀id,F id=[]:=fun id=>h1.dead id (by rw[h3];simp);refine⟨h0,E.at W F,β,F,h1.Gg,rfl,fun b hb=> ?_,hF,h3, ?_⟩;·{obtain⟨id,hm⟩:=hb;rw[hF]at hm;cases hm};·have key:∀b,az (E.at W F) W F b→(az E W F b∨W.heap.size≤b)∧b<W.heap.size:=fun b hb=>⟨.inl (MA.1 hb),hb.2.1⟩;cases z with|some i=>(exact ue _ _ _ _ _ h4 (Kept.refl _ _) key)|none=>obtain⟨i,h4⟩:=h4;exact⟨i,BB _ _ _ _ _ h4 (Kept.refl _ _) key⟩
theorem nc.fin{E:Env}{F:Id→List Nat}(ue:xZ J)(BB:xZ c5)(h0:E.w0=W)(hE:∀b,¬E.eM b)(hF:∀id,F id=[])(hj:DQ J c5 z (az E W F) W){S':ah}{a':Act}{w':World}(hS:bu C E S' a' w')(hh:∀id,S'.h id=none)(hd:a'.defers=[]):nc C J c5 z S' a' w':=by subst h0;obtain⟨β',F',h'⟩:=hS;have hk:Kept E.w0 w' (fun _=>False):=⟨h'.kept.size,fun b h1 _=>h'.kept.blk b h1 (hE b),h'.kept.os,h'.kept.out,h'.kept.eD,h'.kept.mR⟩;have key:∀b,az E w' F' b→(az E E.w0 F b∨E.w0.heap.size≤b)∧b<w'.heap.size:=fun b hb=>⟨by rcases Do b E.w0.heap.size with h|h;·{refine .inl ⟨?_,h,fun id hm=>by rw[hF]at hm;cases hm⟩;rcases hb.1 with h1|h1|h1;·{exact .inl h1};·{exact absurd h1 (hE b)};·omega};·exact .inr h,hb.2.1⟩;refine⟨hd,E,β',F',h',hE,hh, ?_⟩;cases z with|some i=>(exact ue _ _ _ _ _ hj hk key)|none=>obtain⟨i,hj⟩:=hj;exact⟨i,BB _ _ _ _ _ hj hk key⟩
/-! ### The walk -/
structure Nj(C:aF)(call:fO)(l:Nat)(ys:List (List U))(J c5:x4):Prop where
 n:kn C
 calls:∀k as r,call k as=some r→Sound C k as r
 j:xZ J
 Ft:xZ c5
 y:∀i X W vs y,J i X W→ys[i]? =some y→av W X bS [] vs y→YieldAt Fence.wide 0 C.P l ⟨vs⟩ W fun e W'=>((e= .returned (.bool true)∧J (i+1) X W')∨(e= .returned (.bool false)∧c5 (i+1) X W'))∧∀b,X b→W'.heap[b]? =W.heap[b]?
def lg(C:aF)(f:FuncId)(call:fO)(l:Nat)(ys:List (List U))(c:Code)(z:Option Nat)(S:ah)(Q:Exit→Option Nat→ah→Prop):Prop:=∀J c5,Nj C call l ys J c5→∀a W jA,nc C J c5 z S a W→(∀e z' S' a' W',Q e z' S'→nc C J c5 z' S' a' W'→jA e a' W')→c.wpIn Fence.wide 0 C.P jA a W
def se(C:aF)(f:FuncId)(call:fO)(l:Nat)(ys:List (List U))(ops:Array Oper)(i:Nat)(os:List Oper)(z:Option Nat)(S:ah)(Q:Option Nat→ah→Prop):Prop:=(∀j,os[j]? =ops[i+j]?)→∀J c5,Nj C call l ys J c5→∀a W jA,nc C J c5 z S a W→(∀z' S' a' W',Q z' S'→nc C J c5 z' S' a' W'→jA .normal a' W')→wpOpsIn Fence.wide 0 C.P ops jA (List.range' i os.length) a W
end
section
variable{C:aF}{f:FuncId}{call:fO}{l:Nat}{ys:List (List U)}{z:Option Nat}{S:ah}{Q:Exit→Option Nat→ah→Prop}{c b:Code}{ops:Array Oper}{i n d:Nat}{os:List Oper}{K:Option Nat→ah→Prop}
variable{t:Nat→U}{h:Id→Option (Option Rows)}{op:Op}{ty:TypeId}{pos:String}{aV:Array Edge}{v:U}
theorem AE(k:K z S):se C f call l ys ops i [] z S K:=fun _ J c5 _ a W jA hS hQ=>hQ _ _ _ _ k hS
theorem ir(he:bC C f call ⟨n,t,h⟩ true ⟨some d,op,ty,pos,aV,none⟩=some ⟨[(d,v)],[],[]⟩)(k:se C f call l ys ops (i+1) os z ⟨n,ak t d v,h⟩ K)(hs:GE d n=true:=by exact rfl)(hp:C6 op=true:=by exact rfl):se C f call l ys ops i (⟨some d,op,ty,pos,aV,none⟩::os) z ⟨n,t,h⟩ K:=by intro hl J c5 gj a W jA hS hQ;have h0:ops[i]? =some ⟨some d,op,ty,pos,aV,none⟩:=by{simpa using(hl 0).symm};obtain⟨g0,E,β,F,g1,g2,g3,g4,g5,g6⟩:=hS.start gj.j gj.Ft;rw[Hc,Hd,wpOpsIn_cons];unfold wpOpIn;simp only[h0];have hw:Region.wanted (⟨some d,op,ty,pos,aV,none⟩:Oper) (yielded ops a.tmps)=true:=rfl;rw[if_pos hw];have hlt:d<n:=of_decide_eq_true (lU hs);refine ajB hp (FV (next:=bu C E ⟨n,ak t d v,h⟩) gj.n gj.calls g1 he (by simp[cA,hlt]) fun a' w' hx=>hx) fun w' u hx=> ?_;exact k (fun j=>by have:=hl (j+1);simpa[Nat.add_assoc,Nat.add_comm 1 j]using this) J c5 gj _ _ jA (nc.fin (E:=E) (F:=F) gj.j gj.Ft g2 g3 g4 g6 hx g5 (by rw[put_defers];exact g0)) hQ
theorem ajK{cN:Operand}{xs:List Operand}{ts:Array TypeId}{k:Nat}{y:List U}(hfo:un true ((⟨n,t,h⟩:ah).get C cN)= .fn (.yield l) [] [])(hy:ys[k]? =some y)(hxs:(xs.map fun x=>un true ((⟨n,t,h⟩:ah).get C x))=y)(hi:ew y=true)(k1:se C f call l ys ops (i+1) os (some (k+1)) ⟨n,ak t d (.val (.bool true)),h⟩ K)(k2:se C f call l ys ops (i+1) os none ⟨n,ak t d (.val (.bool false)),h⟩ K)(hs:GE d n=true:=by exact rfl):se C f call l ys ops i (⟨some d, .call ⟨.value cN,⟨xs⟩,ts⟩,ty,pos,aV,none⟩::os) (some k) ⟨n,t,h⟩ K:=by intro hl J c5 gj a W jA hS hQ;have h0:ops[i]? =some ⟨some d, .call ⟨.value cN,⟨xs⟩,ts⟩,ty,pos,aV,none⟩:=by{simpa using(hl 0).symm};obtain⟨g0,E,β,F,g1,g2,g3,g4,g5,g6⟩:=hS.start gj.j gj.Ft;have hlt:d<n:=of_decide_eq_true (lU hs);have lJ:=g1.dP cN;rw[hfo]at lJ;obtain⟨_,v1,v2,lJ,r1,r2⟩:=lJ.oW;obtain⟨_,rfl⟩:=r1.fR;obtain⟨_,rfl⟩:=r2.fR;have hargs:=av.ofMap g1 xs;rw[hxs]at hargs;have abV:av W (az E W F) bS [] (xs.map a.eval) y:=av.nv hargs hi;obtain⟨fn,tmps,assign,body,hrun,hR⟩:=gj.y k _ W _ y g6 hy abV;rw[Hc,Hd,wpOpsIn_cons];unfold wpOpIn;simp only[h0];have hw:Region.wanted (⟨some d, .call ⟨.value cN,⟨xs⟩,ts⟩,ty,pos,aV,none⟩:Oper) (yielded ops a.tmps)=true:=rfl;rw[if_pos hw];refine⟨fun f _=>DL none f, ?_⟩;rw[Oper.semAt_eq _ _ _ (fun c e=>by cases e)];have hex:(execOp a.eval (⟨some d, .call ⟨.value cN,⟨xs⟩,ts⟩,ty,pos,aV,none⟩:Oper)).run C.P W= .ok (.round l fn tmps assign body) W:=by{have e1:(⟨xs⟩:Array Operand).map a.eval=⟨xs.map a.eval⟩:=by{apply Array.ext';simp};simp only[execOp,resolve,lJ];rw[e1];simpa[invoke,go_sem]using hrun};rw[hex,Oper.uponIn_round];refine⟨xX none,hR.mono ?_⟩;have fin:∀(z':Option Nat)(bb:Bool)(W':World),(DQ J c5 z' (az E W F) W')→(∀b,az E W F b→W'.heap[b]? =W.heap[b]?)→se C f call l ys ops (i+1) os z' ⟨n,ak t d (.val (.bool bb)),h⟩ K→wpOpsIn Fence.wide 0 C.P ops jA (List.range' (i+1) os.length) (a.put (some d) (.bool bb)) W':=by{intro z' bb W' hj hb kk;have rj:∀b,az E W F b→b<W'.heap.size:=fun b hb'=>by{have:=hb b hb';rcases Do b W'.heap.size with h1|h1;·{exact h1};·rw[Hk h1,Hm hb'.2.1]at this;cases this};have y8:∀(id:Id)(b:Nat),b∉F id:=fun id b hm=>by{rw[g4]at hm;cases hm};let E':Env:={w0:=W',eM:=fun _=>False,cE:=az E W F,m:=0,le:=Nat.zero_le _};have nW:∀b,az E W F b→az E' W' F b:=fun b hb'=>⟨.inl hb',rj b hb',fun id=>y8 id b⟩;refine kk (fun j=>by have:=hl (j+1);simpa[Nat.add_assoc,Nat.add_comm 1 j]using this) J c5 gj _ _ jA ⟨by rw[put_defers];exact g0,E',β,F, ?_,fun _ h=>h,g5, ?_⟩ hQ;·{refine{n:=(by rw[th];exact g1.n),df:=(by rw[put_defers,g0];exact iZ.nil (d0:=[])),slot:=fun t'=> ?_,obj:=fun id rows hr=>(by rw[g5]at hr;cases hr),dead:=fun id _=>g4 id,nd:=fun id=>(by rw[g4];exact Ha),cV:=fun i j b hm=>absurd hm (y8 i b),dom:=g1.dom,lt:=fun id b hm=>absurd hm (y8 id b),kept:=Kept.refl _ _,cw:=fun g cs hg=>(g1.cw g cs hg).mono nW (fun b hb'=>hb b (by rcases hb' with h1|h1<;>first|exact h1|cases h1)) (fun _ _ h=>h),ns:=fun _ _ _ h=>h,kb:=fun _ _ h=>h.elim};rw[tg a d t' _ (by rw[g1.n];exact hlt)];by_cases e:t'=d;·{subst e;simp only[if_true,ak];exact .val rfl};·simp only[if_neg e,ak];exact(g1.slot t').mono nW (fun b hb'=>hb b (by rcases hb' with h1|h1<;>first|exact h1|cases h1)) (fun _ _ h=>h)};·have key:∀b,az E' W' F b→(az E W F b∨W'.heap.size≤b)∧b<W'.heap.size:=fun b hb'=>⟨by rcases hb'.1 with h1|h1|h1;·{exact .inl h1};·{exact h1.elim};·exact .inr h1,hb'.2.1⟩;cases z' with|some i=>(exact gj.j _ _ _ _ _ hj (Kept.refl _ _) key)|none=>obtain⟨i,hj⟩:=hj;exact⟨i,gj.Ft _ _ _ _ _ hj (Kept.refl _ _) key⟩};rintro e W'⟨⟨rfl,hj⟩|⟨rfl,hj⟩,hb⟩;·{exact fin (some (k+1)) true W' hj hb k1};·exact fin none false W' ⟨_,hj⟩ hb k2
theorem TS{id:Nat}(k:se C f call l ys ⟨os⟩ 0 os z S fun z' S'=>Q .normal z' S'):lg C f call l ys (.region id ⟨os⟩ false) z S Q:=fun J c5 gj a W jA hS hQ=>by refine wpIn_region ?_;have:=k (fun j=>by simp) J c5 gj a W jA hS (fun z' S' a' W' hq=>hQ _ _ _ _ _ hq);simpa[List.range_eq_range']using this
theorem GD{a:Code}(k:lg C f call l ys a z S fun e z' S'=>match e with| .normal=>lg C f call l ys b z' S' Q|e=>Q e z' S'):lg C f call l ys (.seq a b) z S Q:=fun J c5 gj ac W jA hS hQ=>by refine wpIn_seq (k J c5 gj ac W _ hS fun e z' S' a' W' hq lG=> ?_);cases e with|normal=>(exact hq J c5 gj _ _ _ lG hQ)|_=>exact hQ _ _ _ _ _ hq lG
theorem GF{id:Nat}(k:se C f call l ys ⟨os⟩ 0 os z S fun z' S'=>lg C f call l ys b z' S' Q):lg C f call l ys (.seq (.region id ⟨os⟩ false) b) z S Q:=GD (TS k)
theorem TT(k:Q .normal z S):lg C f call l ys .skip z S Q:=fun J c5 gj a W jA hS hQ=>wpIn_skip (hQ _ _ _ _ _ k hS)
theorem ajI(k:Q .ret z S):lg C f call l ys .ret z S Q:=fun J c5 gj a W jA hS hQ=>wpIn_ret (hQ _ _ _ _ _ k hS)
theorem ajH{j:Nat}(k:Q (.exit j) z S):lg C f call l ys (.exit j) z S Q:=fun J c5 gj a W jA hS hQ=>wpIn_exit (hQ _ _ _ _ _ k hS)
theorem GC{x:Operand}{bb:Bool}{c1 c2:Code}(hx:un true (S.get C x)= .val (.bool bb))(k:lg C f call l ys (if bb then c1 else c2) z S Q):lg C f call l ys (.cond x c1 c2) z S Q:=fun J c5 gj a W jA hS hQ=>by have hv:a.eval x= .bool bb:=by{obtain⟨_,E,β,F,g1,_⟩:=hS;have:=g1.dP x;rw[hx]at this;exact this.gq.2};exact wpIn_cond hv (by have:=k J c5 gj a W jA hS hQ;cases bb<;>exact this)
theorem TR{j:Nat}(k:lg C f call l ys c z S fun e z' S'=>Q (match e with| .exit i=>if i=j then .normal else .exit i|e=>e) z' S'):lg C f call l ys (.block j c) z S Q:=fun J c5 gj a W jA hS hQ=>by refine wpIn_block (k J c5 gj a W _ hS fun e z' S' a' W' hq lG=> ?_);cases e with|exit i=>(simp only[Exit.inBlock];simp only at hq;split at hq;·{rename_i e;subst e;simpa using hQ _ _ _ _ _ hq lG};·rename_i e;simpa[e]using hQ _ _ _ _ _ hq lG)|_=>exact hQ _ _ _ _ _ hq lG
end
theorem ad6{C:aF}{k:FuncId}{fn:Func}{c:Code}{call:fO}{it:List U→Option (List (List U))}(hN:kn C)(dV:∀k as r,call k as=some r→Sound C k as r)(hf:C.P.funcs[k]? =some fn)(hb:fn.body=some c)(hres:fn.results= #[])(hnt:∀caps ys,it caps=some ys→1+caps.length≤fn.ntmps)
  (hh:∀l caps ys,it caps=some ys→∀id,(aO fn.ntmps (AC (1+caps.length)) (.fn (.yield l) [] []::caps)).h id=none)
  (hw:∀l caps ys,it caps=some ys→lg C k call l ys c (some 0) (aO fn.ntmps (AC (1+caps.length)) (.fn (.yield l) [] []::caps)) fun e z _=>(e= .normal∨e= .ret)∧(z=some ys.length∨z=none)):pT C k it:=by
 refine⟨⟨fn,c,hf,hb⟩,fun caps ys hit w0 I cs hcs hI wH l J c5 W hW ue BB hy h0=> ?_⟩
 refine callsIn_of_wp hf hb trivial ?_
 have hvl:=hcs.length
 let vs:List Value:= .func (.yield l) #[] #[]::cs
 let args:List U:= .fn (.yield l) [] []::caps
 have Cb:vs.length=args.length:=by simp[vs,args,hvl]
 have aly:=hnt caps ys hit
 have ab5:av W I bS [] cs caps:=hcs.mono (fun _ h=>h) (fun b hb=>hW b (by rcases hb with h|h<;>first|exact h|cases h)) (fun _ _ h=>h)
 have hargs:av W I bS [] vs args:=R.cons (f1:=[]) (f2:=[]) (.fn .nil .nil) ab5
 have abr:∀b,I b→b<W.heap.size:=fun b hb=>by
  have :=hW b hb
  rcases Do b W.heap.size with h1|h1
  ·exact h1
  ·rw[Hk h1,Hm (hI b hb)]at this;cases this
 have rz:(AC args.length).map ((⟨vs⟩++Hb (fn.ntmps-(⟨vs⟩:Array Value).size) undef:Array Value).getD · undef)=vs:=by
  apply List.ext_getElem?
  intro k
  rw[List.getElem?_map]
  rcases Do k args.length with hk|hk
  ·rw[List.getElem?_range hk]
   simp only[Hn]
   rw[Array.getD_eq_getD_getElem?,Array.getElem?_append_left (by simpa[Cb]using hk)]
   have :k<vs.length:=by omega
   simp[this]
  ·rw[H0 (by simpa using hk),H0 (by omega)]
   rfl
 let E:Env:={w0:=W,eM:=fun _=>False,cE:=I,m:=W.heap.size,le:=Nat.le_refl _}
 have yX:bu C E (aO fn.ntmps (AC args.length) args) {tmps:=⟨vs⟩++Hb (fn.ntmps-(⟨vs⟩:Array Value).size) undef,defers:=[]} W:=by
  refine aL.enter (I:=I) (f:=[]) ?_ (iZ.nil (d0:=[])) ?_ List.nodup_range Ha (fun b hb=>⟨.inl hb,abr b hb,by simp⟩) (fun b hb=>by cases hb) (Kept.refl W _) (fun g cs hg=> ?_) (fun _ _ _ h=>h) (fun _ _ _ h=>h)
  ·have :args.length=1+caps.length:=by simp[args];omega
   simp[Cb];omega
  ·rw[rz];exact hargs
  ·exact(wH g cs hg).mono (fun _ h=>h) (fun b hb=>hW b (by rcases hb with h|h<;>first|exact h|cases h)) (fun _ _ h=>h)
 have hlen:args.length=1+caps.length:=by simp[args];omega
 obtain⟨β,F,hS⟩:=yX
 have PX:∀id,(aO fn.ntmps (AC args.length) args).h id=none:=by rw[hlen];exact hh l caps ys hit
 have hF:∀id,F id=[]:=fun id=>hS.dead id (by rw[PX];simp)
 have abR:nc C J c5 (some 0) (aO fn.ntmps (AC (1+caps.length)) args) {tmps:=⟨vs⟩++Hb (fn.ntmps-(⟨vs⟩:Array Value).size) undef,defers:=[]} W:=by
  rw[←hlen]
  refine⟨rfl,E,β,F,hS,fun _ h=>h,PX, ?_⟩
  exact ue _ _ _ _ _ h0 (Kept.refl _ _) fun b hb=>⟨by
   rcases hb.1 with h1|h1|h1
   ·exact .inl h1
   ·exact h1.elim
   ·exact .inr h1,hb.2.1⟩
 refine hw l caps ys hit J c5 ⟨hN,dV,ue,BB,hy⟩ _ _ _ abR ?_
 rintro e z S' a' W'⟨he,hz⟩⟨hd,E',β',F',_,_,_,hj⟩
 have hq:(∃X,J ys.length X W')∨∃i X,c5 i X W':=by
  rcases hz with rfl|rfl
  ·exact .inl ⟨_,hj⟩
  ·obtain⟨i,hj⟩:=hj;exact .inr ⟨i,_,hj⟩
 have hr:∃v,(results fn a'.tmps).run C.P W'= .ok v W':=⟨.tuple #[],by simp[results,hres]⟩
 obtain⟨v,hr⟩:=hr
 rcases he with rfl|rfl
 ·exact⟨hd,v,hr,⟨v,rfl⟩,hq⟩
 ·exact⟨hd,v,hr,⟨v,rfl⟩,hq⟩
end Go.Ab
namespace Go.Ab
open Go
/-! ### What it yields -/
def gG{α:Type}(nodes:List α):Nat→List Int→Option (List (Int×α))|_,[]=>some []|j,x::l=>(idx nodes x).bind fun n=>(gG nodes (j+1) l).bind fun r=>some (((j:Int),n)::r)
def kE{α:Type}(kids:α→List Int)(nodes:List α)(k:Int):Option (List (Int×α)):=(idx nodes k).bind fun n=>if(kids n).length≤4294967296 then gG nodes 0 (kids n)else none
def rE{α:Type}(c:α→List U)(y:Int×α):List U:=[.val (.int .i64 y.1), .agg (c y.2)]
def tO(n:Int):List U:=[.val (.int .i64 n)]
def w6:Rows→Option (List Int)|[]=>some []|[.val (.int .i64 x)]::l=>(w6 l).map (x::·)|_=>none
theorem Qx:∀{ks:Rows}{l:List Int},w6 ks=some l→ks=l.map tO|[],l,h=>by{simp[w6]at h;subst h;rfl}|r::ks,l,h=>by unfold w6 at h;split at h;·{rename_i e;cases e};·{rename_i x l' e;cases e;obtain⟨l2,h1,rfl⟩:=Option.map_eq_some_iff.1 h;rw[Qx h1];rfl};·cases h
theorem Qw:∀l:List Int,w6 (l.map tO)=some l|[]=>rfl|x::l=>by simp[tO,w6];exact Qw l
def J7(off:Nat)(r:List U):Option (List Int):=match r.drop off with| .sl ks::_=>w6 ks|_=>none
def s4(m off:Nat):List U→Option (List (List U))|[.aI [.sl rows], .aI [.val (.int .i64 k)]]=>if(rows.all fun r=>decide (r.length=m)&&r.all U.cell&&ew r&&cK r)=true then(idx rows k).bind fun r=>(J7 off r).bind fun l=>if l.length≤4294967296 then(gG rows 0 l).map (·.map (rE id))else none else none|_=>none
theorem QH{α:Type}{c:α→List U}{nodes:List α}:∀{l:List Int}{j:Nat}{ys:List (Int×α)},gG nodes j l=some ys→gG (nodes.map c) j l=some (ys.map fun y=>(y.1,c y.2))|[],j,ys,h=>by{simp[gG]at h;subst h;rfl}|x::l,j,ys,h=>by simp only[gG,GT,H1]at h;obtain⟨n,h1,r,h2,rfl⟩:=h;simp[gG,Ck h1,QH h2]
theorem aef{α:Type}{c:α→List U}{kids:α→List Int}{rest:α→List U}{nodes:List α}{k:Int}{ys:List (Int×α)}{m off:Nat}[hi:pS c][hf:iH c](h:kE kids nodes k=some ys)(hl:∀x,(c x).length=m:=by exact fun _=>rfl)(hc:∀x,(c x).drop off= .sl ((kids x).map tO)::rest x:=by exact fun _=>rfl):s4 m off [.aI [.sl (nodes.map c)], .aI [.val (.int .i64 k)]]=some (ys.map (rE c)):=by unfold kE at h;simp only[GT]at h;obtain⟨n,h1,h2⟩:=h;split at h2;(case isFalse=>cases h2);rename_i hlen;show(if _ then _ else _)=_;rw[if_pos (by simp only[List.all_map,List.all_eq_true,Function.comp,Bool.and_eq_true,decide_eq_true_eq];intro x _;exact⟨⟨⟨hl x,fun y hy=>List.all_eq_true.1 (hi.ce x) y hy⟩,hi.im x⟩,hf.fl x⟩),Ck h1,H2];simp only[J7,hc,Qw,H2,QH h2,Hn,List.map_map,if_pos hlen];rfl
theorem J8{C:aF}{k:FuncId}{α:Type}{c:α→List U}{kids:α→List Int}{rest:α→List U}{nodes:List α}{k0:Int}{ys:List (Int×α)}{m off:Nat}[hi:pS c][hf:iH c](hk:C.iter k=some (s4 m off))(h:kE kids nodes k0=some ys)(hl:∀x,(c x).length=m:=by exact fun _=>rfl)(hc:∀x,(c x).drop off= .sl ((kids x).map tO)::rest x:=by exact fun _=>rfl):
  zZ C (.fn (.func k) [] [.aI [.sl (nodes.map c)], .aI [.val (.int .i64 k0)]])=some (ys.map (rE c)):=by
 show(if ew [.aI [.sl (nodes.map c)], .aI [.val (.int .i64 k0)]]=true then(C.iter k).bind (· [.aI [.sl (nodes.map c)], .aI [.val (.int .i64 k0)]])else none)=_
 rw[if_pos (by simp[ew,ff]),hk]
 exact aef h hl hc
/-! ### The iterator keeps its word -/
theorem rF{α:Type}{nodes:List α}:∀{l:List Int}{j:Nat}{ys:List (Int×α)},gG nodes j l=some ys→ys.length=l.length∧∀(i:Nat)(x:Int),l[i]? =some x→∃n,idx nodes x=some n∧ys[i]? =some (((j+i:Nat):Int),n)|[],j,ys,h=>by{simp[gG]at h;subst h;exact⟨rfl,fun i x h=>by simp at h⟩}|x::l,j,ys,h=>by simp only[gG,GT,H1]at h;obtain⟨n,h1,r,h2,rfl⟩:=h;obtain⟨g1,g2⟩:=rF h2;refine⟨by simp[g1],fun i x' hx=> ?_⟩;cases i with|zero=>(simp at hx;subst hx;exact⟨n,h1,by simp⟩)|succ i=>obtain⟨n',k1,k2⟩:=g2 i x' (by simpa using hx);exact⟨n',k1,by rw[List.getElem?_cons_succ,k2];congr 3;omega⟩
def yg(g f:Nat→U):Prop:=∀t,f t=g t∨f t= .bp
theorem TJ{g:Nat→U}:yg g (fun _=> .bp):=fun _=> .inr rfl
theorem pN{g f:Nat→U}{s:Nat}{v:U}(h:yg g f)(hs:g s=v:=by exact rfl):yg g (ak f s v):=fun t=>by by_cases e:t=s;·{subst e;left;simp[ak,hs]};·simpa[ak,e]using h t
theorem nc.weak{C:aF}{J c5:x4}{z:Option Nat}{a:Act}{W:World}{n:Nat}{t t':Nat→U}{h:Id→Option (Option Rows)}(hw:yg t t')(hS:nc C J c5 z ⟨n,t,h⟩ a W):nc C J c5 z ⟨n,t',h⟩ a W:=by obtain⟨h0,E,β,F,h1,h2,h3,h4⟩:=hS;refine⟨h0,E,β,F,{n:=h1.n,df:=h1.df,slot:=fun u=> ?_,obj:=h1.obj,dead:=h1.dead,nd:=h1.nd,cV:=h1.cV,dom:=h1.dom,lt:=h1.lt,kept:=h1.kept,cw:=h1.cw,ns:=h1.ns,kb:=h1.kb},h2,h3,h4⟩;rcases hw u with e|e;·{simp only[e];exact h1.slot u};·simp only[e];exact .bp
section
variable{C:aF}{f:FuncId}{call:fO}{l:Nat}{ys:List (List U)}{z:Option Nat}{Q:Exit→Option Nat→ah→Prop}{c:Code}{n:Nat}{t:Nat→U}{h:Id→Option (Option Rows)}
theorem ajG(L:Nat)(rep:Nat→Nat→U)(h0:yg t (rep 0))(round:∀j,j≤L→lg C f call l ys c (some j) ⟨n,rep j,h⟩ fun e z' S'=>match e with| .normal=>j<L∧z'=some (j+1)∧S'.n=n∧S'.h=h∧yg S'.t (rep (j+1))|e=>Q e z' S'):lg C f call l ys (.loop c) (some 0) ⟨n,t,h⟩ Q:=by intro J c5 gj a W jA hS hQ;refine Mp (fun m a W=>∃j,j+m=L∧nc C J c5 (some j) ⟨n,rep j,h⟩ a W) L ⟨0,by omega,hS.weak h0⟩ ?_;rintro m a W⟨j,hj,hS⟩;refine round j (by omega) J c5 gj a W _ hS fun e z' S' a' W' hq lG=> ?_;cases e with|normal=>(obtain⟨h1,rfl,h2,h3,h4⟩:=hq;obtain⟨n',t',h'⟩:=S';simp only at h2 h3 h4;subst h2 h3;exact⟨m-1,by omega,j+1,by omega,lG.weak h4⟩)|_=>exact hQ _ _ _ _ _ hq lG
end
section
variable{C:aF}{k:FuncId}{fn:Func}{G1 yd r7 yb AJ VJ:TypeId}{m off dr:Nat}{y0 y1 bF bH cO cL cJ cC cp dH cX di e5 oB tF gS iq fX ld qG tG hM ajD ajE ajF:TypeId}{uU p1 p2 p3 mO rM F1 F2 ag1 ag2 agM agN agO agP agQ agR agS agT agU agV agW agX agY agZ ag0:String}{f0 f1 f2 f3 f4 f5 f6 f7 f8 f9 f10 f11 f12 f13 f14 f15 f16 f17 f18 f19 f20 f21 f22 f23 f24:Array Edge}
set_option maxHeartbeats 2000000 in theorem aej [Fd C G1 0 0 1 false][cR C yd false 1][c9 C yd (.slice yb)][cR C yb true m][Fd C yb dr off 1 false][cR C AJ false 1][c9 C AJ (.slice r7)][cR C r7 false 1](hm0:GE off m=true)(hN:kn C)(hf:C.P.funcs[k]? =some fn)(hn:fn.ntmps=28)(hres:fn.results= #[])(hfz:∀t,(C.eD k).contains t=false)(hb:fn.body=some (.seq (.region 0 ⟨[⟨some 6, .fieldAddr G1 (.tmp 1) 0,y0,uU,f0,none⟩,⟨some 7, .load yd (.tmp 6),y1,p1,f1,none⟩,⟨some 8, .load r7 (.tmp 2),bF,p2,f2,none⟩,⟨some 9, .indexAddr yd (.tmp 7) (.tmp 8),bH,p3,f3,none⟩,⟨some 10, .fieldAddr yb (.tmp 9) dr,cO,mO,f4,none⟩,⟨some 11, .load AJ (.tmp 10),cL,rM,f5,none⟩,⟨some 12, .call ⟨.builtin .len,⟨[.tmp 11]⟩,⟨[AJ]⟩⟩,cJ,F1,f6,none⟩,⟨some 13, .move (.const (.int .i64 0)),cC,F2,f7,none⟩]⟩ false) (.block 0 (.loop (.seq (.region 1 ⟨[⟨some 14, .binOp .lss r7 (.tmp 13) (.tmp 12) r7,cp,ag1,f8,none⟩]⟩ false) (.seq (.cond (.tmp 14) .skip (.exit 0)) (.seq (.block 1 (.seq (.region 2 ⟨[⟨some 15, .move (.tmp 13),dH,ag2,f9,none⟩,⟨some 16, .indexAddr AJ (.tmp 11) (.tmp 13),cX,agM,f10,none⟩,⟨some 17, .load r7 (.tmp 16),di,agN,f11,none⟩,⟨some 4, .assign (.tmp 15),e5,agO,f12,none⟩,⟨some 5, .assign (.tmp 17),oB,agP,f13,none⟩]⟩ false) (.seq (.region 3 ⟨[⟨some 18, .move (.tmp 0),tF,agQ,f14,none⟩,⟨some 19, .move (.tmp 4),gS,agR,f15,none⟩,⟨some 20, .fieldAddr G1 (.tmp 1) 0,iq,agS,f16,none⟩,⟨some 21, .load yd (.tmp 20),fX,agT,f17,none⟩,⟨some 22, .move (.tmp 5),ld,agU,f18,none⟩,⟨some 23, .indexAddr yd (.tmp 21) (.tmp 22),qG,agV,f19,none⟩,⟨some 24, .load yb (.tmp 23),tG,agW,f20,none⟩,⟨some 25, .call ⟨.value (.tmp 18),⟨[.tmp 19, .tmp 24]⟩,⟨[r7,yb]⟩⟩,hM,agX,f21,none⟩,⟨some 26, .unOp .not VJ (.tmp 25),ajD,agY,f22,none⟩]⟩ false) (.cond (.tmp 26) .ret .skip)))) (.region 4 ⟨[⟨some 27, .binOp .add r7 (.tmp 13) (.const (.int .i64 1)) r7,ajE,agZ,f23,none⟩,⟨some 13, .move (.tmp 27),ajF,ag0,f24,none⟩]⟩ false)))))))):pT C k (s4 m off):=by have hm:off<m:=of_decide_eq_true (lU hm0);refine ad6 (call:=fun _ _=>none) hN (fun _ _ _ h=>by cases h) hf hb hres ?_ ?_ ?_;·{intro caps ys h;unfold s4 at h;split at h;·{simp[hn]};·cases h};·{intro l caps ys h id;unfold s4 at h;split at h;·{rfl};·cases h};intro l caps ys h;rw[hn];unfold s4 at h;split at h;(case h_2=>cases h);rename_i rows k0;split at h;(case isFalse=>cases h);rename_i hall;obtain⟨q,rfl⟩:∃q:List (eJ m),rows=q.map eJ.v:=by{refine⟨rows.attachWith _ (fun r hr=>List.all_eq_true.1 hall r hr), ?_⟩;exact(List.attachWith_map_subtype_val _).symm};clear hall;simp only[GT]at h;obtain⟨ahK,h1,ks,h2,h3⟩:=h;split at h3;(case isFalse=>cases h3);rename_i hbd;obtain⟨Mt,h4,rfl⟩:=Option.map_eq_some_iff.1 h3;obtain⟨eB,rD,rfl⟩:∃eB,idx q k0=some eB∧ahK=eB.v:=by{have hb:=zm h1;obtain⟨eB,hr⟩:∃eB,q[k0.toNat]? =some eB:=⟨_,List.getElem?_eq_getElem (by simp at hb;omega)⟩;have:idx q k0=some eB:=by{unfold idx;rw[if_pos hb.1,hr]};refine⟨eB,this, ?_⟩;rw[Ck this]at h1;exact(Option.some.inj h1).symm};obtain⟨rs,acd⟩:∃rs,eB.v.drop off= .sl (ks.map tO)::rs:=by{unfold J7 at h2;split at h2;·{rename_i ks' rs e;rw[Qx h2]at e;exact⟨rs,e⟩};·cases h2};have hlen:∀r:eJ m,r.v.length=m:=fun r=>(yD r).1;have hle:∀r:eJ m,Nat.ble off r.v.length=true:=fun r=>Nat.ble_eq_true_of_le (by rw[hlen];omega);have ur:GE 0 m=true:=by{simp[GE];omega};obtain⟨EO,gg⟩:=rF h4;have Cf:(Mt.map (rE id)).length=ks.length:=by{simp[EO]};rw[Cf];let st:Nat→Nat→U:=fun j=>ak (ak (ak (ak (ak (ak (fun _=> .bp) 0 (.fn (.yield l) [] [])) 1 (.aI [.sl (q.map eJ.v)])) 2 (.aI [.val (.int .i64 k0)])) 11 (.sl (ks.map tO))) 12 (.val (.int .i64 ks.length))) 13 (.val (.int .i64 (j:Int)));show lg C k (fun _ _=>none) l (Mt.map (rE id)) _ (some 0) ⟨28,ak (ak (ak (fun _=> .bp) 2 (.aI [.val (.int .i64 k0)])) 1 (.aI [.sl (q.map eJ.v)])) 0 (.fn (.yield l) [] []),fun _=>none⟩ _;refine GF<|ir (aD (C:=C) (hz:=hfz _))<|ir ay<|ir ay<|ir (cI rD (h0:=ur) (hr:=hlen _))<|ir (aD (hl:=hle _) (hz:=hfz _))<|ir (ay (hv:=acd))<|ir dG<|ir aa<|AE<|TR<|ajG ks.length st ?_ ?_;·{exact pN (pN (pN (pN (pN (pN TJ)))))};intro j hj;refine GF<|ir (fk (a:=(j:Int)) (b:=(ks.length:Int)))<|AE ?_;rcases Do j ks.length with hlt|hge;·{have hd:decide ((j:Int)<(ks.length:Int))=true:=by{simp;omega};obtain⟨x,hx⟩:∃x,ks[j]? =some x:=⟨_,List.getElem?_eq_getElem hlt⟩;have acG:idx ks (j:Int)=some x:=by{unfold idx;rw[if_pos (by omega)];simpa using hx};obtain⟨nd,hnd,hy⟩:=gg j x hx;obtain⟨nd,n3,rfl⟩:∃r,idx q x=some r∧nd=r.v:=by{have hb:=zm hnd;obtain⟨r,hr⟩:∃r,q[x.toNat]? =some r:=⟨_,List.getElem?_eq_getElem (by simp at hb;omega)⟩;have:idx q x=some r:=by{unfold idx;rw[if_pos hb.1,hr]};refine⟨r,this, ?_⟩;rw[Ck this]at hnd;exact(Option.some.inj hnd).symm};have adH:(Mt.map (rE id))[j]? =some [.val (.int .i64 (j:Int)), .agg nd.v]:=by{rw[List.getElem?_map,hy];simp[rE]};have htk:nd.v.take m=nd.v:=List.take_of_length_le (by rw[hlen];omega);refine GD (GC (bb:=true) (by rw[←hd];rfl) (TT ?_));refine GD (TR ?_);refine GF<|ir aa<|ir (cI (c:=tO) acG)<|ir ay<|ir af<|ir af<|AE ?_;refine GF<|ir (aa (v:= .fn (.yield l) [] []) (h:=rfl))<|ir aa<|ir (aD (hz:=hfz _))<|ir ay<|ir aa<|ir (cI n3 (h0:=ur) (hr:=hlen _))<|ir (eo (hl:=Nat.ble_eq_true_of_le (by rw[hlen];omega)) (hv:=htk))<|ajK rfl adH rfl ?_ ?_ ?_;·{have:=(yD nd).2.2.1;simp[ew,ff,this]};·{refine ir gk<|AE<|GC (bb:=false) rfl (TT ?_);have hw:(IntKind.i64.wrap ((j:Int)+1))=((j+1:Nat):Int):=by{simp only[IntKind.wrap,IntKind.bits,IntKind.signed];simp;split<;>omega};refine TS<|ir eI<|ir aa<|AE ⟨hlt,rfl,rfl,rfl, ?_⟩;exact pN (pN (pN (pN (pN (pN TJ))))) (by show U.val (.int .i64 (IntKind.i64.wrap ((j:Int)+1)))=_;rw[hw])};·exact ir gk<|AE<|GC (bb:=true) rfl (ajI ⟨.inr rfl, .inr rfl⟩)};·have hd:decide ((j:Int)<(ks.length:Int))=false:=by{simp;omega};refine GD (GC (bb:=false) (by rw[←hd];rfl) (ajH ?_));obtain rfl:j=ks.length:=by{omega};exact⟨.inl rfl, .inl rfl⟩
end
end Go.Ab
namespace Go.Ab
open Go
def ng(P:Program)(cw:Nat→Option (List U)):aF:={P:=P,cw:=cw,ext:=fun _=>none,ct:=fun _=>[],eD:=fun _=>[],live:=fun _ _=>[],hU:=fun _ _=>[]}
theorem Xi{P:Program}{cw:Nat→Option (List U)}(h:pU P):kn (ng P cw):=⟨h,(fun k p(h:(none:Option (Nat×Nat))=some p)=>by cases h),(fun k(h:false=true)=>by cases h)⟩
theorem Xj{P:Program}{cw:Nat→Option (List U)}:qK (ng P cw):=⟨(fun f i b l(h:(none:Option (Bool×List Nat))=some (b,l))=>by cases h),(fun f i b l(h:(none:Option (Bool×List Nat))=some (b,l))=>by cases h),(fun f i b l(h:(none:Option (Bool×List Nat))=some (b,l))=>by cases h)⟩
theorem aeO{C:aF}{k:FuncId}{fn:Func}{c:Code}(abH:pU C.P)(hw:C.P.follows .mixedOrders=true)(hf:C.P.funcs[k]? =some fn)(hb:fn.body=some c)(hok:oh (ng C.P C.cw) k c=true)(hle:C.ct k=[])(h:∀{us:List Value}{i c:Int}{cells:List U}{ks:Rows}{u:Value},(∀u∈us,ey u=true)→cells[4]? =some (.sl ks)→ks[i.toNat]? =some [.val (.int .i64 c)]→us[c.toNat]? =some u→0≤i→0≤c→den (ng C.P C.cw) 1 k [.val (.int .i64 i), .aI [.sl (us.map fun u=>[.val u])], .aI cells]=some (.val u,[])):x9 C k:=by intro w cE vs us i c cells ks u n5 hargs h4 hk hu hi hc hI hg;have hs:Sound (ng C.P C.cw) k [.val (.int .i64 i), .aI [.sl (us.map fun u=>[.val u])], .aI cells] (.val u,[]):=RJ (Xi abH) hw (fun _ _=>fB.nil) Xj (fun k it(h:(none:Option (List U→Option (List (List U))))=some it)=>by cases h) (fun k(h:false=true)=>by cases h) (fun g a r(h:(none:Option (List U→Option (U×List U)))=some g)=>by cases h) (fun fn' c' _ h1 h2=>by have h1:C.P.funcs[k]? =some fn':=h1;rw[hf]at h1;obtain rfl:=H3 h1;rw[hb]at h2;obtain rfl:=H3 h2;exact hok) (call:=den (ng C.P C.cw) 0) (fun k as r(h:(none:Option (U×List U))=some r)=>by cases h) zG (h n5 h4 hk hu hi hc);have:=hs.1 rfl w cE [] vs hargs Ha (fun b hb=>⟨hI b hb,by simp⟩) (fun b hb=>by cases hb) hg;have post:∀v w',vG w [] cE (rH ((ng C.P C.cw).ct k) vs) (.val u,[]) v w'→v=u∧Kept w w' (fun _=>False):=fun v w' hr=>by{obtain⟨I',fr,g1,_,_,_⟩:=hr.ex;obtain⟨f1,f2,v1,vs',_,e1,k1,_⟩:=av.cons_inv g1;simp only[List.cons.injEq]at e1;obtain⟨rfl,_⟩:=e1;exact⟨k1.gq.2,⟨hr.kept.size,fun b hb _=>hr.kept.blk b hb (by simp),hr.kept.os,hr.kept.out,hr.kept.eD,hr.kept.mR⟩⟩};rcases this with⟨fn',c',q1,cc,cZ⟩|⟨v,w',q1,cc⟩;·{exact .inl ⟨fn',c',q1,cc,cZ.mono fun e w' hh=>by obtain⟨v,rfl,hr⟩:=hh;exact⟨v,rfl,post v w' hr⟩⟩};·exact .inr ⟨v,w',q1,post v w' cc⟩
end Go.Ab
