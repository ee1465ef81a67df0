import Derived.Test.YtbbhbdlljfffdaaGreatDoorAbV14
import Derived.Test.YtbbhbdlljfffdaaGreatDoorAbClone
open Array renaming replicate→Hb,getElem?_eq_none→Hk,getElem?_eq_getElem→Hm
open List renaming range→AC,nodup_nil→Ha,length_cons→Hc,range'_succ→Hd,getElem?_eq_none→H0
open Nat renaming lt_or_ge→Do,blt→GE
open Option renaming bind_eq_some_iff→GT,map_some→Hn,bind_some→H2
open Option.some renaming injEq→H1,inj→H3
set_option linter.all false
namespace Go.Ab
open Go
abbrev xL:=Nat→(Nat→Prop)→World→Prop
def xK(J:xL):Prop:=∀i X Y W W',J i X W→Kept W W' (fun _=>False)→(∀b,Y b→(X b∨W.heap.size≤b)∧b<W'.heap.size)→J i Y W'
def DN(J c6:xL):Option Nat→(Nat→Prop)→World→Prop|some i,X,W=>J i X W|none,X,W=>∃i,c6 i X W
def mL(C:aG)(J c6:xL)(z:Option Nat)(S:ah)(a:Act)(W:World):Prop:=a.defers=[]∧∃E β F,aN C E W S a β F∧(∀b,¬E.eL b)∧(∀id,S.h id=none)∧DN J c6 z (aA E W F) W
/-! ### Operations that defer nothing -/
def CY:Op→Bool| .move _| .assign _| .load _ _| .fieldAddr _ _ _| .indexAddr _ _ _| .binOp _ _ _ _ _| .unOp _ _ _| .field _ _ _| .extract _ _| .box _ _| .alloc _| .build _ _=>true| .call c=>(match c.callee with| .builtin .len=>true|_=>false)|_=>false
theorem SW{P:Program}{w w':World}{s:Sem Value}{d:Deferred}:(do pure (Next.value (←s)):Sem Next).run P w≠ .ok (.defer d) w':=by intro h;rw[Sem.run_bind]at h;cases hs:s.run P w with|ok v w1=>(rw[hs]at h;simp at h)|halt x w1=>rw[hs]at h;cases h
theorem ahj{P:Program}{ρ:Operand→Value}{o:Oper}{w w':World}{d:Deferred}(hp:CY o.op=true):(execOp ρ o).run P w≠ .ok (.defer d) w':=by
 unfold CY at hp
 split at hp
 all_goals try(rename_i ho;unfold execOp;rw[ho];exact SW)
 ·rename_i ho;unfold execOp;rw[ho];intro h;cases h
 ·rename_i ho;unfold execOp;rw[ho];intro h;cases h
 ·rename_i c ho
  split at hp
  ·rename_i hc
   have e:execOp ρ o=builtin .len c.argTypes o.type (c.args.map fun| .const _=>true|_=>false) (c.args.map ρ):=by
    unfold execOp;rw[ho];simp only[resolve,hc];rfl
   rw[e]
   exact SW
  ·cases hp
 ·cases hp
theorem ahi{o:Oper}(hp:CY o.op=true)(c:Call):o.op≠ .defer c:=fun e=>by rw[e]at hp;cases hp
section
variable{C:aG}{f:FuncId}{call:fL}{J c6:xL}{z:Option Nat}{S:ah}{a:Act}{W w:World}
theorem ajj{P:Program}{o:Oper}{next next':Act→World→Prop}{Q:Exit→Act→World→Prop}(hp:CY o.op=true)(h:o.wp P a w next Q)(hn:∀w' v,next (a.put o.dst v) w'→next' (a.put o.dst v) w'):o.wpIn Fence.wide 0 P a w next' Q:=by refine⟨fun f _=>DI none f, ?_⟩;rw[Oper.semAt_eq _ _ _ (ahi hp)];unfold Oper.wp at h;have hnd:∀d w',(execOp a.eval o).run P w≠ .ok (.defer d) w':=fun d w'=>ahj hp;generalize(execOp a.eval o).run P w=r at*;cases r with|ok x w'=>(cases x with|value v=>(exact hn _ v h)|skip=>(exact hn _ undef h)|defer d=>(exact absurd rfl (hnd d w'))|enter f args=>(exact⟨xI none,NQ (ro:=none) (h.mono fun e w'' he=>by cases e<;>first|exact hn _ _ he|exact he)⟩)|row row args=>(exact⟨xI none,SH (ro:=none) (h.mono fun v w'' he=>hn _ _ he)⟩)|round l f tmps assign body=>(exact h.elim)|_=>exact h)|halt x w'=>cases x<;>exact h
theorem mL.start(si:xK J)(Bq:xK c6)(h:mL C J c6 z S a W):a.defers=[]∧∃E β F,aN C E W S a β F∧E.w0=W∧(∀b,¬E.eL b)∧(∀id,F id=[])∧(∀id,S.h id=none)∧DN J c6 z (aA E W F) W:=by obtain⟨h0,E,β,F,h1,h2,h3,h4⟩:=h;have hF:∀id,F id=[]:=fun id=>h1.dead id (by rw[h3];simp);refine⟨h0,E.at W F,β,F,h1.F9,rfl,fun b hb=> ?_,hF,h3, ?_⟩;·{obtain⟨id,hm⟩:=hb;rw[hF]at hm;cases hm};·have key:∀b,aA (E.at W F) W F b→(aA E W F b∨W.heap.size≤b)∧b<W.heap.size:=fun b hb=>⟨.inl (Mw.1 hb),hb.2.1⟩;cases z with|some i=>(exact si _ _ _ _ _ h4 (Kept.refl _ _) key)|none=>obtain⟨i,h4⟩:=h4;exact⟨i,Bq _ _ _ _ _ h4 (Kept.refl _ _) key⟩
theorem mL.fin{E:Env}{F:Id→List Nat}(si:xK J)(Bq:xK c6)(h0:E.w0=W)(hE:∀b,¬E.eL b)(hF:∀id,F id=[])(hj:DN J c6 z (aA E W F) W){S':ah}{a':Act}{w':World}(hS:bx C E S' a' w')(hh:∀id,S'.h id=none)(hd:a'.defers=[]):mL C J c6 z S' a' w':=by subst h0;obtain⟨β',F',h'⟩:=hS;have hk:Kept E.w0 w' (fun _=>False):=⟨h'.kept.size,fun b h1 _=>h'.kept.blk b h1 (hE b),h'.kept.os,h'.kept.out,h'.kept.eD,h'.kept.mB⟩;have key:∀b,aA E w' F' b→(aA E E.w0 F b∨E.w0.heap.size≤b)∧b<w'.heap.size:=fun b hb=>⟨by rcases Do b E.w0.heap.size with h|h;·{refine .inl ⟨?_,h,fun id hm=>by rw[hF]at hm;cases hm⟩;rcases hb.1 with h1|h1|h1;·{exact .inl h1};·{exact absurd h1 (hE b)};·omega};·exact .inr h,hb.2.1⟩;refine⟨hd,E,β',F',h',hE,hh, ?_⟩;cases z with|some i=>(exact si _ _ _ _ _ hj hk key)|none=>obtain⟨i,hj⟩:=hj;exact⟨i,Bq _ _ _ _ _ hj hk key⟩
/-! ### The walk -/
structure Nh(C:aG)(call:fL)(l:Nat)(ys:List (List U))(J c6:xL):Prop where
 n:j6 C
 calls:∀k as r,call k as=some r→Sound C k as r
 j:xK J
 Fj:xK c6
 y:∀i X W vs y,J i X W→ys[i]? =some y→av W X bR [] vs y→YieldAt Fence.wide 0 C.P l ⟨vs⟩ W fun e W'=>((e= .returned (.bool true)∧J (i+1) X W')∨(e= .returned (.bool false)∧c6 (i+1) X W'))∧∀b,X b→W'.heap[b]? =W.heap[b]?
def kS(C:aG)(f:FuncId)(call:fL)(l:Nat)(ys:List (List U))(c:Code)(z:Option Nat)(S:ah)(Q:Exit→Option Nat→ah→Prop):Prop:=∀J c6,Nh C call l ys J c6→∀a W jq,mL C J c6 z S a W→(∀e z' S' a' W',Q e z' S'→mL C J c6 z' S' a' W'→jq e a' W')→c.wpIn Fence.wide 0 C.P jq a W
def rS(C:aG)(f:FuncId)(call:fL)(l:Nat)(ys:List (List U))(ops:Array Oper)(i:Nat)(os:List Oper)(z:Option Nat)(S:ah)(Q:Option Nat→ah→Prop):Prop:=(∀j,os[j]? =ops[i+j]?)→∀J c6,Nh C call l ys J c6→∀a W jq,mL C J c6 z S a W→(∀z' S' a' W',Q z' S'→mL C J c6 z' S' a' W'→jq .normal a' W')→wpOpsIn Fence.wide 0 C.P ops jq (List.range' i os.length) a W
end
section
variable{C:aG}{f:FuncId}{call:fL}{l:Nat}{ys:List (List U)}{z:Option Nat}{S:ah}{Q:Exit→Option Nat→ah→Prop}{c b:Code}{ops:Array Oper}{i n d:Nat}{os:List Oper}{K:Option Nat→ah→Prop}
variable{t:Nat→U}{h:Id→Option (Option Rows)}{op:Op}{ty:TypeId}{pos:String}{aV:Array Edge}{v:U}
theorem Ao(k:K z S):rS C f call l ys ops i [] z S K:=fun _ J c6 _ a W jq hS hQ=>hQ _ _ _ _ k hS
theorem hO(he:bA C f call ⟨n,t,h⟩ true ⟨some d,op,ty,pos,aV,none⟩=some ⟨[(d,v)],[],[]⟩)(k:rS C f call l ys ops (i+1) os z ⟨n,ak t d v,h⟩ K)(hs:GE d n=true:=by exact rfl)(hp:CY op=true:=by exact rfl):rS C f call l ys ops i (⟨some d,op,ty,pos,aV,none⟩::os) z ⟨n,t,h⟩ K:=by intro hl J c6 fZ a W jq hS hQ;have h0:ops[i]? =some ⟨some d,op,ty,pos,aV,none⟩:=by{simpa using(hl 0).symm};obtain⟨g0,E,β,F,g1,g2,g3,g4,g5,g6⟩:=hS.start fZ.j fZ.Fj;rw[Hc,Hd,wpOpsIn_cons];unfold wpOpIn;simp only[h0];have hw:Region.wanted (⟨some d,op,ty,pos,aV,none⟩:Oper) (yielded ops a.tmps)=true:=rfl;rw[if_pos hw];have hlt:d<n:=of_decide_eq_true (lG hs);refine ajj hp (FN (next:=bx C E ⟨n,ak t d v,h⟩) fZ.n fZ.calls g1 he (by simp[cF,hlt]) fun a' w' hx=>hx) fun w' u hx=> ?_;exact k (fun j=>by have:=hl (j+1);simpa[Nat.add_assoc,Nat.add_comm 1 j]using this) J c6 fZ _ _ jq (mL.fin (E:=E) (F:=F) fZ.j fZ.Fj g2 g3 g4 g6 hx g5 (by rw[put_defers];exact g0)) hQ
theorem ajs{cQ:Operand}{xs:List Operand}{ts:Array TypeId}{k:Nat}{y:List U}(hfo:un true ((⟨n,t,h⟩:ah).get C cQ)= .fn (.yield l) [] [])(hy:ys[k]? =some y)(hxs:(xs.map fun x=>un true ((⟨n,t,h⟩:ah).get C x))=y)(hi:eA y=true)(k1:rS C f call l ys ops (i+1) os (some (k+1)) ⟨n,ak t d (.val (.bool true)),h⟩ K)(k2:rS C f call l ys ops (i+1) os none ⟨n,ak t d (.val (.bool false)),h⟩ K)(hs:GE d n=true:=by exact rfl):rS C f call l ys ops i (⟨some d, .call ⟨.value cQ,⟨xs⟩,ts⟩,ty,pos,aV,none⟩::os) (some k) ⟨n,t,h⟩ K:=by intro hl J c6 fZ a W jq hS hQ;have h0:ops[i]? =some ⟨some d, .call ⟨.value cQ,⟨xs⟩,ts⟩,ty,pos,aV,none⟩:=by{simpa using(hl 0).symm};obtain⟨g0,E,β,F,g1,g2,g3,g4,g5,g6⟩:=hS.start fZ.j fZ.Fj;have hlt:d<n:=of_decide_eq_true (lG hs);have k9:=g1.dO cQ;rw[hfo]at k9;obtain⟨_,v1,v2,k9,r1,r2⟩:=k9.oG;obtain⟨_,rfl⟩:=r1.fJ;obtain⟨_,rfl⟩:=r2.fJ;have hargs:=av.ofMap g1 xs;rw[hxs]at hargs;have abH:av W (aA E W F) bR [] (xs.map a.eval) y:=av.mW hargs hi;obtain⟨fn,tmps,assign,body,hrun,hR⟩:=fZ.y k _ W _ y g6 hy abH;rw[Hc,Hd,wpOpsIn_cons];unfold wpOpIn;simp only[h0];have hw:Region.wanted (⟨some d, .call ⟨.value cQ,⟨xs⟩,ts⟩,ty,pos,aV,none⟩:Oper) (yielded ops a.tmps)=true:=rfl;rw[if_pos hw];refine⟨fun f _=>DI none f, ?_⟩;rw[Oper.semAt_eq _ _ _ (fun c e=>by cases e)];have hex:(execOp a.eval (⟨some d, .call ⟨.value cQ,⟨xs⟩,ts⟩,ty,pos,aV,none⟩:Oper)).run C.P W= .ok (.round l fn tmps assign body) W:=by{have e1:(⟨xs⟩:Array Operand).map a.eval=⟨xs.map a.eval⟩:=by{apply Array.ext';simp};simp only[execOp,resolve,k9];rw[e1];simpa[invoke,go_sem]using hrun};rw[hex,Oper.uponIn_round];refine⟨xI none,hR.mono ?_⟩;have fin:∀(z':Option Nat)(bb:Bool)(W':World),(DN J c6 z' (aA E W F) W')→(∀b,aA E W F b→W'.heap[b]? =W.heap[b]?)→rS C f call l ys ops (i+1) os z' ⟨n,ak t d (.val (.bool bb)),h⟩ K→wpOpsIn Fence.wide 0 C.P ops jq (List.range' (i+1) os.length) (a.put (some d) (.bool bb)) W':=by{intro z' bb W' hj hb kk;have qU:∀b,aA E W F b→b<W'.heap.size:=fun b hb'=>by{have:=hb b hb';rcases Do b W'.heap.size with h1|h1;·{exact h1};·rw[Hk h1,Hm hb'.2.1]at this;cases this};have yO:∀(id:Id)(b:Nat),b∉F id:=fun id b hm=>by{rw[g4]at hm;cases hm};let E':Env:={w0:=W',eL:=fun _=>False,cJ:=aA E W F,m:=0,le:=Nat.zero_le _};have nK:∀b,aA E W F b→aA E' W' F b:=fun b hb'=>⟨.inl hb',qU b hb',fun id=>yO id b⟩;refine kk (fun j=>by have:=hl (j+1);simpa[Nat.add_assoc,Nat.add_comm 1 j]using this) J c6 fZ _ _ jq ⟨by rw[put_defers];exact g0,E',β,F, ?_,fun _ h=>h,g5, ?_⟩ hQ;·{refine{n:=(by rw[sP];exact g1.n),df:=(by rw[put_defers,g0];exact iV.nil (d0:=[])),slot:=fun t'=> ?_,obj:=fun id rows hr=>(by rw[g5]at hr;cases hr),dead:=fun id _=>g4 id,nd:=fun id=>(by rw[g4];exact Ha),cY:=fun i j b hm=>absurd hm (yO i b),dom:=g1.dom,lt:=fun id b hm=>absurd hm (yO id b),kept:=Kept.refl _ _,cA:=fun g cs hg=>(g1.cA g cs hg).mono nK (fun b hb'=>hb b (by rcases hb' with h1|h1<;>first|exact h1|cases h1)) (fun _ _ h=>h),ns:=fun _ _ _ h=>h,kb:=fun _ _ h=>h.elim};rw[sO a d t' _ (by rw[g1.n];exact hlt)];by_cases e:t'=d;·{subst e;simp only[if_true,ak];exact .val rfl};·simp only[if_neg e,ak];exact(g1.slot t').mono nK (fun b hb'=>hb b (by rcases hb' with h1|h1<;>first|exact h1|cases h1)) (fun _ _ h=>h)};·have key:∀b,aA E' W' F b→(aA E W F b∨W'.heap.size≤b)∧b<W'.heap.size:=fun b hb'=>⟨by rcases hb'.1 with h1|h1|h1;·{exact .inl h1};·{exact h1.elim};·exact .inr h1,hb'.2.1⟩;cases z' with|some i=>(exact fZ.j _ _ _ _ _ hj (Kept.refl _ _) key)|none=>obtain⟨i,hj⟩:=hj;exact⟨i,fZ.Fj _ _ _ _ _ hj (Kept.refl _ _) key⟩};rintro e W'⟨⟨rfl,hj⟩|⟨rfl,hj⟩,hb⟩;·{exact fin (some (k+1)) true W' hj hb k1};·exact fin none false W' ⟨_,hj⟩ hb k2
theorem TG{id:Nat}(k:rS C f call l ys ⟨os⟩ 0 os z S fun z' S'=>Q .normal z' S'):kS C f call l ys (.region id ⟨os⟩ false) z S Q:=fun J c6 fZ a W jq hS hQ=>by refine wpIn_region ?_;have:=k (fun j=>by simp) J c6 fZ a W jq hS (fun z' S' a' W' hq=>hQ _ _ _ _ _ hq);simpa[List.range_eq_range']using this
theorem Gx{a:Code}(k:kS C f call l ys a z S fun e z' S'=>match e with| .normal=>kS C f call l ys b z' S' Q|e=>Q e z' S'):kS C f call l ys (.seq a b) z S Q:=fun J c6 fZ ac W jq hS hQ=>by refine wpIn_seq (k J c6 fZ ac W _ hS fun e z' S' a' W' hq k7=> ?_);cases e with|normal=>(exact hq J c6 fZ _ _ _ k7 hQ)|_=>exact hQ _ _ _ _ _ hq k7
theorem Gy{id:Nat}(k:rS C f call l ys ⟨os⟩ 0 os z S fun z' S'=>kS C f call l ys b z' S' Q):kS C f call l ys (.seq (.region id ⟨os⟩ false) b) z S Q:=Gx (TG k)
theorem TI(k:Q .normal z S):kS C f call l ys .skip z S Q:=fun J c6 fZ a W jq hS hQ=>wpIn_skip (hQ _ _ _ _ _ k hS)
theorem ajq(k:Q .ret z S):kS C f call l ys .ret z S Q:=fun J c6 fZ a W jq hS hQ=>wpIn_ret (hQ _ _ _ _ _ k hS)
theorem ajp{j:Nat}(k:Q (.exit j) z S):kS C f call l ys (.exit j) z S Q:=fun J c6 fZ a W jq hS hQ=>wpIn_exit (hQ _ _ _ _ _ k hS)
theorem Gw{x:Operand}{bb:Bool}{c1 c2:Code}(hx:un true (S.get C x)= .val (.bool bb))(k:kS C f call l ys (if bb then c1 else c2) z S Q):kS C f call l ys (.cond x c1 c2) z S Q:=fun J c6 fZ a W jq hS hQ=>by have hv:a.eval x= .bool bb:=by{obtain⟨_,E,β,F,g1,_⟩:=hS;have:=g1.dO x;rw[hx]at this;exact this.gd.2};exact wpIn_cond hv (by have:=k J c6 fZ a W jq hS hQ;cases bb<;>exact this)
theorem TF{j:Nat}(k:kS C f call l ys c z S fun e z' S'=>Q (match e with| .exit i=>if i=j then .normal else .exit i|e=>e) z' S'):kS C f call l ys (.block j c) z S Q:=fun J c6 fZ a W jq hS hQ=>by refine wpIn_block (k J c6 fZ a W _ hS fun e z' S' a' W' hq k7=> ?_);cases e with|exit i=>(simp only[Exit.inBlock];simp only at hq;split at hq;·{rename_i e;subst e;simpa using hQ _ _ _ _ _ hq k7};·rename_i e;simpa[e]using hQ _ _ _ _ _ hq k7)|_=>exact hQ _ _ _ _ _ hq k7
end
theorem adZ{C:aG}{k:FuncId}{fn:Func}{c:Code}{call:fL}{it:List U→Option (List (List U))}(hN:j6 C)(dW:∀k as r,call k as=some r→Sound C k as r)(hf:C.P.funcs[k]? =some fn)(hb:fn.body=some c)(hres:fn.results= #[])(hnt:∀caps ys,it caps=some ys→1+caps.length≤fn.ntmps)
  (hh:∀l caps ys,it caps=some ys→∀id,(aL fn.ntmps (AC (1+caps.length)) (.fn (.yield l) [] []::caps)).h id=none)
  (hw:∀l caps ys,it caps=some ys→kS C k call l ys c (some 0) (aL fn.ntmps (AC (1+caps.length)) (.fn (.yield l) [] []::caps)) fun e z _=>(e= .normal∨e= .ret)∧(z=some ys.length∨z=none)):pe C k it:=by
 refine⟨⟨fn,c,hf,hb⟩,fun caps ys hit w0 I cs hcs hI v8 l J c6 W hW si Bq hy h0=> ?_⟩
 refine callsIn_of_wp hf hb trivial ?_
 have hvl:=hcs.length
 let vs:List Value:= .func (.yield l) #[] #[]::cs
 let args:List U:= .fn (.yield l) [] []::caps
 have B1:vs.length=args.length:=by simp[vs,args,hvl]
 have aln:=hnt caps ys hit
 have abS:av W I bR [] cs caps:=hcs.mono (fun _ h=>h) (fun b hb=>hW b (by rcases hb with h|h<;>first|exact h|cases h)) (fun _ _ h=>h)
 have hargs:av W I bR [] vs args:=R.cons (f1:=[]) (f2:=[]) (.fn .nil .nil) abS
 have abg:∀b,I b→b<W.heap.size:=fun b hb=>by
  have :=hW b hb
  rcases Do b W.heap.size with h1|h1
  ·exact h1
  ·rw[Hk h1,Hm (hI b hb)]at this;cases this
 have qX:(AC args.length).map ((⟨vs⟩++Hb (fn.ntmps-(⟨vs⟩:Array Value).size) undef:Array Value).getD · undef)=vs:=by
  apply List.ext_getElem?
  intro k
  rw[List.getElem?_map]
  rcases Do k args.length with hk|hk
  ·rw[List.getElem?_range hk]
   simp only[Hn]
   rw[Array.getD_eq_getD_getElem?,Array.getElem?_append_left (by simpa[B1]using hk)]
   have :k<vs.length:=by omega
   simp[this]
  ·rw[H0 (by simpa using hk),H0 (by omega)]
   rfl
 let E:Env:={w0:=W,eL:=fun _=>False,cJ:=I,m:=W.heap.size,le:=Nat.le_refl _}
 have yI:bx C E (aL fn.ntmps (AC args.length) args) {tmps:=⟨vs⟩++Hb (fn.ntmps-(⟨vs⟩:Array Value).size) undef,defers:=[]} W:=by
  refine aN.enter (I:=I) (f:=[]) ?_ (iV.nil (d0:=[])) ?_ List.nodup_range Ha (fun b hb=>⟨.inl hb,abg b hb,by simp⟩) (fun b hb=>by cases hb) (Kept.refl W _) (fun g cs hg=> ?_) (fun _ _ _ h=>h) (fun _ _ _ h=>h)
  ·have :args.length=1+caps.length:=by simp[args];omega
   simp[B1];omega
  ·rw[qX];exact hargs
  ·exact(v8 g cs hg).mono (fun _ h=>h) (fun b hb=>hW b (by rcases hb with h|h<;>first|exact h|cases h)) (fun _ _ h=>h)
 have hlen:args.length=1+caps.length:=by simp[args];omega
 obtain⟨β,F,hS⟩:=yI
 have PO:∀id,(aL fn.ntmps (AC args.length) args).h id=none:=by rw[hlen];exact hh l caps ys hit
 have hF:∀id,F id=[]:=fun id=>hS.dead id (by rw[PO];simp)
 have abD:mL C J c6 (some 0) (aL fn.ntmps (AC (1+caps.length)) args) {tmps:=⟨vs⟩++Hb (fn.ntmps-(⟨vs⟩:Array Value).size) undef,defers:=[]} W:=by
  rw[←hlen]
  refine⟨rfl,E,β,F,hS,fun _ h=>h,PO, ?_⟩
  exact si _ _ _ _ _ h0 (Kept.refl _ _) fun b hb=>⟨by
   rcases hb.1 with h1|h1|h1
   ·exact .inl h1
   ·exact h1.elim
   ·exact .inr h1,hb.2.1⟩
 refine hw l caps ys hit J c6 ⟨hN,dW,si,Bq,hy⟩ _ _ _ abD ?_
 rintro e z S' a' W'⟨he,hz⟩⟨hd,E',β',F',_,_,_,hj⟩
 have hq:(∃X,J ys.length X W')∨∃i X,c6 i X W':=by
  rcases hz with rfl|rfl
  ·exact .inl ⟨_,hj⟩
  ·obtain⟨i,hj⟩:=hj;exact .inr ⟨i,_,hj⟩
 have hr:∃v,(results fn a'.tmps).run C.P W'= .ok v W':=⟨.tuple #[],by simp[results,hres]⟩
 obtain⟨v,hr⟩:=hr
 rcases he with rfl|rfl
 ·exact⟨hd,v,hr,⟨v,rfl⟩,hq⟩
 ·exact⟨hd,v,hr,⟨v,rfl⟩,hq⟩
end Go.Ab
namespace Go.Ab
open Go
/-! ### What it yields -/
def jZ{α:Type}(nodes:List α):Nat→List Int→Option (List (Int×α))|_,[]=>some []|j,x::l=>(idx nodes x).bind fun n=>(jZ nodes (j+1) l).bind fun r=>some (((j:Int),n)::r)
def oR{α:Type}(kids:α→List Int)(nodes:List α)(k:Int):Option (List (Int×α)):=(idx nodes k).bind fun n=>if(kids n).length≤4294967296 then jZ nodes 0 (kids n)else none
def q5{α:Type}(c:α→List U)(y:Int×α):List U:=[.val (.int .i64 y.1), .agg (c y.2)]
def tu(n:Int):List U:=[.val (.int .i64 n)]
def wK:Rows→Option (List Int)|[]=>some []|[.val (.int .i64 x)]::l=>(wK l).map (x::·)|_=>none
theorem Qq:∀{ks:Rows}{l:List Int},wK ks=some l→ks=l.map tu|[],l,h=>by{simp[wK]at h;subst h;rfl}|r::ks,l,h=>by unfold wK at h;split at h;·{rename_i e;cases e};·{rename_i x l' e;cases e;obtain⟨l2,h1,rfl⟩:=Option.map_eq_some_iff.1 h;rw[Qq h1];rfl};·cases h
theorem Qp:∀l:List Int,wK (l.map tu)=some l|[]=>rfl|x::l=>by simp[tu,wK];exact Qp l
def J3(off:Nat)(r:List U):Option (List Int):=match r.drop off with| .sl ks::_=>wK ks|_=>none
def sG(m off:Nat):List U→Option (List (List U))|[.aD [.sl rows], .aD [.val (.int .i64 k)]]=>if(rows.all fun r=>decide (r.length=m)&&r.all U.cell&&eA r&&cM r)=true then(idx rows k).bind fun r=>(J3 off r).bind fun l=>if l.length≤4294967296 then(jZ rows 0 l).map (·.map (q5 id))else none else none|_=>none
theorem QA{α:Type}{c:α→List U}{nodes:List α}:∀{l:List Int}{j:Nat}{ys:List (Int×α)},jZ nodes j l=some ys→jZ (nodes.map c) j l=some (ys.map fun y=>(y.1,c y.2))|[],j,ys,h=>by{simp[jZ]at h;subst h;rfl}|x::l,j,ys,h=>by simp only[jZ,GT,H1]at h;obtain⟨n,h1,r,h2,rfl⟩:=h;simp[jZ,B8 h1,QA h2]
theorem ad6{α:Type}{c:α→List U}{kids:α→List Int}{rest:α→List U}{nodes:List α}{k:Int}{ys:List (Int×α)}{m off:Nat}[hi:o9 c][hf:iA c](h:oR kids nodes k=some ys)(hl:∀x,(c x).length=m:=by exact fun _=>rfl)(hc:∀x,(c x).drop off= .sl ((kids x).map tu)::rest x:=by exact fun _=>rfl):sG m off [.aD [.sl (nodes.map c)], .aD [.val (.int .i64 k)]]=some (ys.map (q5 c)):=by unfold oR at h;simp only[GT]at h;obtain⟨n,h1,h2⟩:=h;split at h2;(case isFalse=>cases h2);rename_i hlen;show(if _ then _ else _)=_;rw[if_pos (by simp only[List.all_map,List.all_eq_true,Function.comp,Bool.and_eq_true,decide_eq_true_eq];intro x _;exact⟨⟨⟨hl x,fun y hy=>List.all_eq_true.1 (hi.ce x) y hy⟩,hi.im x⟩,hf.fl x⟩),B8 h1,H2];simp only[J3,hc,Qp,H2,QA h2,Hn,List.map_map,if_pos hlen];rfl
theorem J4{C:aG}{k:FuncId}{α:Type}{c:α→List U}{kids:α→List Int}{rest:α→List U}{nodes:List α}{k0:Int}{ys:List (Int×α)}{m off:Nat}[hi:o9 c][hf:iA c](hk:C.iter k=some (sG m off))(h:oR kids nodes k0=some ys)(hl:∀x,(c x).length=m:=by exact fun _=>rfl)(hc:∀x,(c x).drop off= .sl ((kids x).map tu)::rest x:=by exact fun _=>rfl):
  zH C (.fn (.func k) [] [.aD [.sl (nodes.map c)], .aD [.val (.int .i64 k0)]])=some (ys.map (q5 c)):=by
 show(if eA [.aD [.sl (nodes.map c)], .aD [.val (.int .i64 k0)]]=true then(C.iter k).bind (· [.aD [.sl (nodes.map c)], .aD [.val (.int .i64 k0)]])else none)=_
 rw[if_pos (by simp[eA,fo]),hk]
 exact ad6 h hl hc
/-! ### The iterator keeps its word -/
theorem uk{α:Type}{nodes:List α}:∀{l:List Int}{j:Nat}{ys:List (Int×α)},jZ nodes j l=some ys→ys.length=l.length∧∀(i:Nat)(x:Int),l[i]? =some x→∃n,idx nodes x=some n∧ys[i]? =some (((j+i:Nat):Int),n)|[],j,ys,h=>by{simp[jZ]at h;subst h;exact⟨rfl,fun i x h=>by simp at h⟩}|x::l,j,ys,h=>by simp only[jZ,GT,H1]at h;obtain⟨n,h1,r,h2,rfl⟩:=h;obtain⟨g1,g2⟩:=uk h2;refine⟨by simp[g1],fun i x' hx=> ?_⟩;cases i with|zero=>(simp at hx;subst hx;exact⟨n,h1,by simp⟩)|succ i=>obtain⟨n',k1,k2⟩:=g2 i x' (by simpa using hx);exact⟨n',k1,by rw[List.getElem?_cons_succ,k2];congr 3;omega⟩
def xX(g f:Nat→U):Prop:=∀t,f t=g t∨f t= .br
theorem Tx{g:Nat→U}:xX g (fun _=> .br):=fun _=> .inr rfl
theorem o6{g f:Nat→U}{s:Nat}{v:U}(h:xX g f)(hs:g s=v:=by exact rfl):xX g (ak f s v):=fun t=>by by_cases e:t=s;·{subst e;left;simp[ak,hs]};·simpa[ak,e]using h t
theorem mL.weak{C:aG}{J c6:xL}{z:Option Nat}{a:Act}{W:World}{n:Nat}{t t':Nat→U}{h:Id→Option (Option Rows)}(hw:xX t t')(hS:mL C J c6 z ⟨n,t,h⟩ a W):mL C J c6 z ⟨n,t',h⟩ a W:=by obtain⟨h0,E,β,F,h1,h2,h3,h4⟩:=hS;refine⟨h0,E,β,F,{n:=h1.n,df:=h1.df,slot:=fun u=> ?_,obj:=h1.obj,dead:=h1.dead,nd:=h1.nd,cY:=h1.cY,dom:=h1.dom,lt:=h1.lt,kept:=h1.kept,cA:=h1.cA,ns:=h1.ns,kb:=h1.kb},h2,h3,h4⟩;rcases hw u with e|e;·{simp only[e];exact h1.slot u};·simp only[e];exact .br
section
variable{C:aG}{f:FuncId}{call:fL}{l:Nat}{ys:List (List U)}{z:Option Nat}{Q:Exit→Option Nat→ah→Prop}{c:Code}{n:Nat}{t:Nat→U}{h:Id→Option (Option Rows)}
theorem ajo(L:Nat)(rep:Nat→Nat→U)(h0:xX t (rep 0))(round:∀j,j≤L→kS C f call l ys c (some j) ⟨n,rep j,h⟩ fun e z' S'=>match e with| .normal=>j<L∧z'=some (j+1)∧S'.n=n∧S'.h=h∧xX S'.t (rep (j+1))|e=>Q e z' S'):kS C f call l ys (.loop c) (some 0) ⟨n,t,h⟩ Q:=by intro J c6 fZ a W jq hS hQ;refine Mm (fun m a W=>∃j,j+m=L∧mL C J c6 (some j) ⟨n,rep j,h⟩ a W) L ⟨0,by omega,hS.weak h0⟩ ?_;rintro m a W⟨j,hj,hS⟩;refine round j (by omega) J c6 fZ a W _ hS fun e z' S' a' W' hq k7=> ?_;cases e with|normal=>(obtain⟨h1,rfl,h2,h3,h4⟩:=hq;obtain⟨n',t',h'⟩:=S';simp only at h2 h3 h4;subst h2 h3;exact⟨m-1,by omega,j+1,by omega,k7.weak h4⟩)|_=>exact hQ _ _ _ _ _ hq k7
end
section
variable{C:aG}{k:FuncId}{fn:Func}{GV xU rO xS At VG:TypeId}{m off dr:Nat}{y0 y1 bY bI bE cO cL cu b5 dL dA dh fc oe s9 gK hM fT kQ qq tc nu ajl ajm ajn:TypeId}{rq p1 p2 p3 kN ru FU FV agS agT agD agE agF agG agH agI agJ agK agL agM agN agO agP agQ agR:String}{f0 f1 f2 f3 f4 f5 f6 f7 f8 f9 f10 f11 f12 f13 f14 f15 f16 f17 f18 f19 f20 f21 f22 f23 f24:Array Edge}
set_option maxHeartbeats 2000000 in theorem aeb [Fd C GV 0 0 1 false][cU C xU false 1][c9 C xU (.slice xS)][cU C xS true m][Fd C xS dr off 1 false][cU C At false 1][c9 C At (.slice rO)][cU C rO false 1](hm0:GE off m=true)(hN:j6 C)(hf:C.P.funcs[k]? =some fn)(hn:fn.ntmps=28)(hres:fn.results= #[])(hfz:∀t,(C.eD k).contains t=false)(hb:fn.body=some (.seq (.region 0 ⟨[⟨some 6, .fieldAddr GV (.tmp 1) 0,y0,rq,f0,none⟩,⟨some 7, .load xU (.tmp 6),y1,p1,f1,none⟩,⟨some 8, .load rO (.tmp 2),bY,p2,f2,none⟩,⟨some 9, .indexAddr xU (.tmp 7) (.tmp 8),bI,p3,f3,none⟩,⟨some 10, .fieldAddr xS (.tmp 9) dr,bE,kN,f4,none⟩,⟨some 11, .load At (.tmp 10),cO,ru,f5,none⟩,⟨some 12, .call ⟨.builtin .len,⟨[.tmp 11]⟩,⟨[At]⟩⟩,cL,FU,f6,none⟩,⟨some 13, .move (.const (.int .i64 0)),cu,FV,f7,none⟩]⟩ false) (.block 0 (.loop (.seq (.region 1 ⟨[⟨some 14, .binOp .lss rO (.tmp 13) (.tmp 12) rO,b5,agS,f8,none⟩]⟩ false) (.seq (.cond (.tmp 14) .skip (.exit 0)) (.seq (.block 1 (.seq (.region 2 ⟨[⟨some 15, .move (.tmp 13),dL,agT,f9,none⟩,⟨some 16, .indexAddr At (.tmp 11) (.tmp 13),dA,agD,f10,none⟩,⟨some 17, .load rO (.tmp 16),dh,agE,f11,none⟩,⟨some 4, .assign (.tmp 15),fc,agF,f12,none⟩,⟨some 5, .assign (.tmp 17),oe,agG,f13,none⟩]⟩ false) (.seq (.region 3 ⟨[⟨some 18, .move (.tmp 0),s9,agH,f14,none⟩,⟨some 19, .move (.tmp 4),gK,agI,f15,none⟩,⟨some 20, .fieldAddr GV (.tmp 1) 0,hM,agJ,f16,none⟩,⟨some 21, .load xU (.tmp 20),fT,agK,f17,none⟩,⟨some 22, .move (.tmp 5),kQ,agL,f18,none⟩,⟨some 23, .indexAddr xU (.tmp 21) (.tmp 22),qq,agM,f19,none⟩,⟨some 24, .load xS (.tmp 23),tc,agN,f20,none⟩,⟨some 25, .call ⟨.value (.tmp 18),⟨[.tmp 19, .tmp 24]⟩,⟨[rO,xS]⟩⟩,nu,agO,f21,none⟩,⟨some 26, .unOp .not VG (.tmp 25),ajl,agP,f22,none⟩]⟩ false) (.cond (.tmp 26) .ret .skip)))) (.region 4 ⟨[⟨some 27, .binOp .add rO (.tmp 13) (.const (.int .i64 1)) rO,ajm,agQ,f23,none⟩,⟨some 13, .move (.tmp 27),ajn,agR,f24,none⟩]⟩ false)))))))):pe C k (sG m off):=by have hm:off<m:=of_decide_eq_true (lG hm0);refine adZ (call:=fun _ _=>none) hN (fun _ _ _ h=>by cases h) hf hb hres ?_ ?_ ?_;·{intro caps ys h;unfold sG at h;split at h;·{simp[hn]};·cases h};·{intro l caps ys h id;unfold sG at h;split at h;·{rfl};·cases h};intro l caps ys h;rw[hn];unfold sG at h;split at h;(case h_2=>cases h);rename_i rows k0;split at h;(case isFalse=>cases h);rename_i hall;obtain⟨q,rfl⟩:∃q:List (eI m),rows=q.map eI.v:=by{refine⟨rows.attachWith _ (fun r hr=>List.all_eq_true.1 hall r hr), ?_⟩;exact(List.attachWith_map_subtype_val _).symm};clear hall;simp only[GT]at h;obtain⟨ahz,h1,ks,h2,h3⟩:=h;split at h3;(case isFalse=>cases h3);rename_i hbd;obtain⟨Mp,h4,rfl⟩:=Option.map_eq_some_iff.1 h3;obtain⟨dX,q2,rfl⟩:∃dX,idx q k0=some dX∧ahz=dX.v:=by{have hb:=y2 h1;obtain⟨dX,hr⟩:∃dX,q[k0.toNat]? =some dX:=⟨_,List.getElem?_eq_getElem (by simp at hb;omega)⟩;have:idx q k0=some dX:=by{unfold idx;rw[if_pos hb.1,hr]};refine⟨dX,this, ?_⟩;rw[B8 this]at h1;exact(Option.some.inj h1).symm};obtain⟨rs,abX⟩:∃rs,dX.v.drop off= .sl (ks.map tu)::rs:=by{unfold J3 at h2;split at h2;·{rename_i ks' rs e;rw[Qq h2]at e;exact⟨rs,e⟩};·cases h2};have hlen:∀r:eI m,r.v.length=m:=fun r=>(yg r).1;have hle:∀r:eI m,Nat.ble off r.v.length=true:=fun r=>Nat.ble_eq_true_of_le (by rw[hlen];omega);have tZ:GE 0 m=true:=by{simp[GE];omega};obtain⟨EI,gg⟩:=uk h4;have JG:(Mp.map (q5 id)).length=ks.length:=by{simp[EI]};rw[JG];let st:Nat→Nat→U:=fun j=>ak (ak (ak (ak (ak (ak (fun _=> .br) 0 (.fn (.yield l) [] [])) 1 (.aD [.sl (q.map eI.v)])) 2 (.aD [.val (.int .i64 k0)])) 11 (.sl (ks.map tu))) 12 (.val (.int .i64 ks.length))) 13 (.val (.int .i64 (j:Int)));show kS C k (fun _ _=>none) l (Mp.map (q5 id)) _ (some 0) ⟨28,ak (ak (ak (fun _=> .br) 2 (.aD [.val (.int .i64 k0)])) 1 (.aD [.sl (q.map eI.v)])) 0 (.fn (.yield l) [] []),fun _=>none⟩ _;refine Gy<|hO (ay (C:=C) (hz:=hfz _))<|hO au<|hO au<|hO (bS q2 (h0:=tZ) (hr:=hlen _))<|hO (ay (hl:=hle _) (hz:=hfz _))<|hO (au (hv:=abX))<|hO c7<|hO aa<|Ao<|TF<|ajo ks.length st ?_ ?_;·{exact o6 (o6 (o6 (o6 (o6 (o6 Tx)))))};intro j hj;refine Gy<|hO (eN (a:=(j:Int)) (b:=(ks.length:Int)))<|Ao ?_;rcases Do j ks.length with hlt|hge;·{have hd:decide ((j:Int)<(ks.length:Int))=true:=by{simp;omega};obtain⟨x,hx⟩:∃x,ks[j]? =some x:=⟨_,List.getElem?_eq_getElem hlt⟩;have acs:idx ks (j:Int)=some x:=by{unfold idx;rw[if_pos (by omega)];simpa using hx};obtain⟨nd,hnd,hy⟩:=gg j x hx;obtain⟨nd,nP,rfl⟩:∃r,idx q x=some r∧nd=r.v:=by{have hb:=y2 hnd;obtain⟨r,hr⟩:∃r,q[x.toNat]? =some r:=⟨_,List.getElem?_eq_getElem (by simp at hb;omega)⟩;have:idx q x=some r:=by{unfold idx;rw[if_pos hb.1,hr]};refine⟨r,this, ?_⟩;rw[B8 this]at hnd;exact(Option.some.inj hnd).symm};have adA:(Mp.map (q5 id))[j]? =some [.val (.int .i64 (j:Int)), .agg nd.v]:=by{rw[List.getElem?_map,hy];simp[q5]};have htk:nd.v.take m=nd.v:=List.take_of_length_le (by rw[hlen];omega);refine Gx (Gw (bb:=true) (by rw[←hd];rfl) (TI ?_));refine Gx (TF ?_);refine Gy<|hO aa<|hO (bS (c:=tu) acs)<|hO au<|hO af<|hO af<|Ao ?_;refine Gy<|hO (aa (v:= .fn (.yield l) [] []) (h:=rfl))<|hO aa<|hO (ay (hz:=hfz _))<|hO au<|hO aa<|hO (bS nP (h0:=tZ) (hr:=hlen _))<|hO (dQ (hl:=Nat.ble_eq_true_of_le (by rw[hlen];omega)) (hv:=htk))<|ajs rfl adA rfl ?_ ?_ ?_;·{have:=(yg nd).2.2.1;simp[eA,fo,this]};·{refine hO e8<|Ao<|Gw (bb:=false) rfl (TI ?_);have hw:(IntKind.i64.wrap ((j:Int)+1))=((j+1:Nat):Int):=by{simp only[IntKind.wrap,IntKind.bits,IntKind.signed];simp;split<;>omega};refine TG<|hO eH<|hO aa<|Ao ⟨hlt,rfl,rfl,rfl, ?_⟩;exact o6 (o6 (o6 (o6 (o6 (o6 Tx))))) (by show U.val (.int .i64 (IntKind.i64.wrap ((j:Int)+1)))=_;rw[hw])};·exact hO e8<|Ao<|Gw (bb:=true) rfl (ajq ⟨.inr rfl, .inr rfl⟩)};·have hd:decide ((j:Int)<(ks.length:Int))=false:=by{simp;omega};refine Gx (Gw (bb:=false) (by rw[←hd];rfl) (ajp ?_));obtain rfl:j=ks.length:=by{omega};exact⟨.inl rfl, .inl rfl⟩
end
end Go.Ab
namespace Go.Ab
open Go
def mM(P:Program)(cA:Nat→Option (List U)):aG:={P:=P,cA:=cA,ext:=fun _=>none,cv:=fun _=>[],eD:=fun _=>[],live:=fun _ _=>[],gX:=fun _ _=>[]}
theorem Xj{P:Program}{cA:Nat→Option (List U)}(h:pg P):j6 (mM P cA):=⟨h,(fun k p(h:(none:Option (Nat×Nat))=some p)=>by cases h),(fun k(h:false=true)=>by cases h)⟩
theorem Xk{P:Program}{cA:Nat→Option (List U)}:qv (mM P cA):=⟨(fun f i b l(h:(none:Option (Bool×List Nat))=some (b,l))=>by cases h),(fun f i b l(h:(none:Option (Bool×List Nat))=some (b,l))=>by cases h),(fun f i b l(h:(none:Option (Bool×List Nat))=some (b,l))=>by cases h)⟩
theorem aeE{C:aG}{k:FuncId}{fn:Func}{c:Code}(abw:pg C.P)(hw:C.P.follows .mixedOrders=true)(hf:C.P.funcs[k]? =some fn)(hb:fn.body=some c)(hok:n3 (mM C.P C.cA) k c=true)(hle:C.cv k=[])(h:∀{us:List Value}{i c:Int}{cells:List U}{ks:Rows}{u:Value},(∀u∈us,eB u=true)→cells[4]? =some (.sl ks)→ks[i.toNat]? =some [.val (.int .i64 c)]→us[c.toNat]? =some u→0≤i→0≤c→den (mM C.P C.cA) 1 k [.val (.int .i64 i), .aD [.sl (us.map fun u=>[.val u])], .aD cells]=some (.val u,[])):xQ C k:=by intro w cJ vs us i c cells ks u nR hargs h4 hk hu hi hc hI hg;have hs:Sound (mM C.P C.cA) k [.val (.int .i64 i), .aD [.sl (us.map fun u=>[.val u])], .aD cells] (.val u,[]):=RA (Xj abw) hw (fun _ _=>fB.nil) Xk (fun k it(h:(none:Option (List U→Option (List (List U))))=some it)=>by cases h) (fun k(h:false=true)=>by cases h) (fun g a r(h:(none:Option (List U→Option (U×List U)))=some g)=>by cases h) (fun fn' c' _ h1 h2=>by have h1:C.P.funcs[k]? =some fn':=h1;rw[hf]at h1;obtain rfl:=H3 h1;rw[hb]at h2;obtain rfl:=H3 h2;exact hok) (call:=den (mM C.P C.cA) 0) (fun k as r(h:(none:Option (U×List U))=some r)=>by cases h) zj (h nR h4 hk hu hi hc);have:=hs.1 rfl w cJ [] vs hargs Ha (fun b hb=>⟨hI b hb,by simp⟩) (fun b hb=>by cases hb) hg;have post:∀v w',vg w [] cJ (q8 ((mM C.P C.cA).cv k) vs) (.val u,[]) v w'→v=u∧Kept w w' (fun _=>False):=fun v w' hr=>by{obtain⟨I',fr,g1,_,_,_⟩:=hr.ex;obtain⟨f1,f2,v1,vs',_,e1,k1,_⟩:=av.cons_inv g1;simp only[List.cons.injEq]at e1;obtain⟨rfl,_⟩:=e1;exact⟨k1.gd.2,⟨hr.kept.size,fun b hb _=>hr.kept.blk b hb (by simp),hr.kept.os,hr.kept.out,hr.kept.eD,hr.kept.mB⟩⟩};rcases this with⟨fn',c',q1,cg,cS⟩|⟨v,w',q1,cg⟩;·{exact .inl ⟨fn',c',q1,cg,cS.mono fun e w' hh=>by obtain⟨v,rfl,hr⟩:=hh;exact⟨v,rfl,post v w' hr⟩⟩};·exact .inr ⟨v,w',q1,post v w' cg⟩
end Go.Ab
