import Derived.Test.YtbikcahlonfnmaaGreatAbV11
namespace Go.Ab
open Go
abbrev Ao:=Nat→(Nat→Prop)→World→Prop
def An(J:Ao):Prop:=∀i X Y W W',J i X W→Kept W W' (fun _=>False)→(∀b,Y b→(X b∨W.heap.size≤b)∧b<W'.heap.size)→J i Y W'
def G7(J dn:Ao):Option Nat→(Nat→Prop)→World→Prop|some i,X,W=>J i X W|none,X,W=>∃i,dn i X W
def nw(C:aO)(J dn:Ao)(z:Option Nat)(S:ak)(a:Act)(W:World):Prop:=a.defers=[]∧∃E β F,aR C E W S a β F∧(∀b,¬E.fc b)∧(∀id,S.h id=none)∧G7 J dn z (aK E W F) W
/-! ### Operations that defer nothing -/
def FM:Op→Bool| .move _| .assign _| .load _ _| .fieldAddr _ _ _| .indexAddr _ _ _| .binOp _ _ _ _ _| .unOp _ _ _| .field _ _ _| .extract _ _| .box _ _| .alloc _| .build _ _=>true| .call c=>(match c.callee with| .builtin .len=>true|_=>false)|_=>false
theorem Vi{P:Program}{w w':World}{s:Sem Value}{d:Deferred}:(do pure (Next.value (←s)):Sem Next).run P w≠ .ok (.defer d) w':=by intro h;rw[Sem.run_bind]at h;cases hs:s.run P w with|ok v w1=>(rw[hs]at h;simp at h)|halt x w1=>rw[hs]at h;cases h
theorem ajb {P : Program} {ρ : Operand → Value} {o : Oper} {w w' : World} {d : Deferred} (hp : FM o.op = true) : (execOp ρ o).run P w ≠ .ok (.defer d) w' := by
  unfold FM at hp
  split at hp
  all_goals try (rename_i ho; unfold execOp; rw [ho]; exact Vi)
  · rename_i ho; unfold execOp; rw [ho]; intro h; cases h
  · rename_i ho; unfold execOp; rw [ho]; intro h; cases h
  · rename_i c ho
    split at hp
    · rename_i hc
      have e : execOp ρ o = builtin .len c.argTypes o.type (c.args.map fun | .const _ => true | _ => false) (c.args.map ρ) := by
        unfold execOp; rw [ho]; simp only [resolve, hc]; rfl
      rw [e]
      exact Vi
    · cases hp
  · cases hp
theorem aja{o:Oper}(hp:FM o.op=true)(c:Call):o.op≠ .defer c:=fun e=>by rw[e]at hp;cases hp
section
variable{C:aO}{f:FuncId}{call:gA}{J dn:Ao}{z:Option Nat}{S:ak}{a:Act}{W w:World}
theorem aly{P:Program}{o:Oper}{next next':Act→World→Prop}{Q:Exit→Act→World→Prop}(hp:FM o.op=true)(h:o.wp P a w next Q)(hn:∀w' v,next (a.put o.dst v) w'→next' (a.put o.dst v) w'):o.wpIn Fence.wide 0 P a w next' Q:=by refine⟨fun f _=>G4 none f, ?_⟩;rw[Oper.semAt_eq _ _ _ (aja hp)];unfold Oper.wp at h;have cm:∀d w',(execOp a.eval o).run P w≠ .ok (.defer d) w':=fun d w'=>ajb hp;generalize(execOp a.eval o).run P w=r at*;cases r with|ok x w'=>(cases x with|value v=>(exact hn _ v h)|skip=>(exact hn _ undef h)|defer d=>(exact absurd rfl (cm d w'))|enter f args=>(exact⟨Al none,P3 (ro:=none) (h.mono fun e w'' he=>by cases e<;>first|exact hn _ _ he|exact he)⟩)|row row args=>(exact⟨Al none,U5 (ro:=none) (h.mono fun v w'' he=>hn _ _ he)⟩)|round l f tmps assign body=>(exact h.elim)|_=>exact h)|halt x w'=>cases x<;>exact h
theorem nw.start(vl:An J)(Eu:An dn)(h:nw C J dn z S a W):a.defers=[]∧∃E β F,aR C E W S a β F∧E.w0=W∧(∀b,¬E.fc b)∧(∀id,F id=[])∧(∀id,S.h id=none)∧G7 J dn z (aK E W F) W:=by obtain⟨h0,E,β,F,h1,h2,h3,h4⟩:=h;have hF:∀id,F id=[]:=fun id=>h1.dead id (by rw[h3];simp);refine⟨h0,E.at W F,β,F,h1.JG,rfl,fun b hb=> ?_,hF,h3, ?_⟩;·{obtain⟨id,hm⟩:=hb;rw[hF]at hm;cases hm};·have key:∀b,aK (E.at W F) W F b→(aK E W F b∨W.heap.size≤b)∧b<W.heap.size:=fun b hb=>⟨.inl (ON.1 hb),hb.2.1⟩;cases z with|some i=>(exact vl _ _ _ _ _ h4 (Kept.refl _ _) key)|none=>obtain⟨i,h4⟩:=h4;exact⟨i,Eu _ _ _ _ _ h4 (Kept.refl _ _) key⟩
theorem nw.fin{E:Env}{F:Id→List Nat}(vl:An J)(Eu:An dn)(h0:E.w0=W)(hE:∀b,¬E.fc b)(hF:∀id,F id=[])(hj:G7 J dn z (aK E W F) W){S':ak}{a':Act}{w':World}(hS:bG C E S' a' w')(hh:∀id,S'.h id=none)(hd:a'.defers=[]):nw C J dn z S' a' w':=by subst h0;obtain⟨β',F',h'⟩:=hS;have hk:Kept E.w0 w' (fun _=>False):=⟨h'.kept.size,fun b h1 _=>h'.kept.cX b h1 (hE b),h'.kept.os,h'.kept.out,h'.kept.eR,h'.kept.o8⟩;have key:∀b,aK E w' F' b→(aK E E.w0 F b∨E.w0.heap.size≤b)∧b<w'.heap.size:=fun b hb=>⟨by rcases Nat.lt_or_ge b E.w0.heap.size with h|h;·{refine .inl ⟨?_,h,fun id hm=>by rw[hF]at hm;cases hm⟩;rcases hb.1 with h1|h1|h1;·{exact .inl h1};·{exact absurd h1 (hE b)};·omega};·exact .inr h,hb.2.1⟩;refine⟨hd,E,β',F',h',hE,hh, ?_⟩;cases z with|some i=>(exact vl _ _ _ _ _ hj hk key)|none=>obtain⟨i,hj⟩:=hj;exact⟨i,Eu _ _ _ _ _ hj hk key⟩
/-! ### The walk -/
structure Pw (C : aO) (call : gA) (l : Nat) (ys : List (List aa)) (J dn : Ao) : Prop where
  n : kD C
  calls : ∀ k as r, call k as = some r → Sound C k as r
  j : An J
  IV : An dn
  y : ∀ i X W vs y, J i X W → ys[i]? = some y → aG W X cc [] vs y → YieldAt Fence.wide 0 C.P l ⟨vs⟩ W fun e W' => ((e = .returned (.bool true) ∧ J (i + 1) X W') ∨ (e = .returned (.bool false) ∧ dn (i + 1) X W')) ∧ ∀ b, X b → W'.heap[b]? = W.heap[b]?
def kX(C:aO)(f:FuncId)(call:gA)(l:Nat)(ys:List (List aa))(c:Code)(z:Option Nat)(S:ak)(Q:Exit→Option Nat→ak→Prop):Prop:=∀J dn,Pw C call l ys J dn→∀a W jb,nw C J dn z S a W→(∀e z' S' a' W',Q e z' S'→nw C J dn z' S' a' W'→jb e a' W')→c.wpIn Fence.wide 0 C.P jb a W
def tr(C:aO)(f:FuncId)(call:gA)(l:Nat)(ys:List (List aa))(ops:Array Oper)(i:Nat)(os:List Oper)(z:Option Nat)(S:ak)(Q:Option Nat→ak→Prop):Prop:=(∀j,os[j]? =ops[i+j]?)→∀J dn,Pw C call l ys J dn→∀a W jb,nw C J dn z S a W→(∀z' S' a' W',Q z' S'→nw C J dn z' S' a' W'→jb .normal a' W')→wpOpsIn Fence.wide 0 C.P ops jb (List.range' i os.length) a W
end
section
variable{C:aO}{f:FuncId}{call:gA}{l:Nat}{ys:List (List aa)}{z:Option Nat}{S:ak}{Q:Exit→Option Nat→ak→Prop}{c b:Code}{ops:Array Oper}{i n d:Nat}{os:List Oper}{K:Option Nat→ak→Prop}
variable{t:Nat→aa}{h:Id→Option (Option Rows)}{op:Op}{ty:TypeId}{pos:String}{bg:Array Edge}{v:aa}
theorem Dc(k:K z S):tr C f call l ys ops i [] z S K:=fun _ J dn _ a W jb hS hQ=>hQ _ _ _ _ k hS
theorem g6(he:bF C f call ⟨n,t,h⟩ true ⟨some d,op,ty,pos,bg,none⟩=some ⟨[(d,v)],[],[]⟩)(k:tr C f call l ys ops (i+1) os z ⟨n,av t d v,h⟩ K)(hs:Nat.blt d n=true:=by exact rfl)(hp:FM op=true:=by exact rfl):tr C f call l ys ops i (⟨some d,op,ty,pos,bg,none⟩::os) z ⟨n,t,h⟩ K:=by intro hl J dn fY a W jb hS hQ;have h0:ops[i]? =some ⟨some d,op,ty,pos,bg,none⟩:=by{simpa using(hl 0).symm};obtain⟨g0,E,β,F,g1,g2,g3,g4,fB,gh⟩:=hS.start fY.j fY.IV;rw[List.length_cons,List.range'_succ,wpOpsIn_cons];unfold wpOpIn;simp only[h0];have hw:Region.wanted (⟨some d,op,ty,pos,bg,none⟩:Oper) (yielded ops a.tmps)=true:=rfl;rw[if_pos hw];have hlt:d<n:=of_decide_eq_true (mG hs);refine aly hp (Jm (next:=bG C E ⟨n,av t d v,h⟩) fY.n fY.calls g1 he (by simp[cE,hlt]) fun a' w' hx=>hx) fun w' u hx=> ?_;exact k (fun j=>by have:=hl (j+1);simpa[Nat.add_assoc,Nat.add_comm 1 j]using this) J dn fY _ _ jb (nw.fin (E:=E) (F:=F) fY.j fY.IV g2 g3 g4 gh hx fB (by rw[put_defers];exact g0)) hQ
theorem alL{cF:Operand}{xs:List Operand}{ts:Array TypeId}{k:Nat}{y:List aa}(hfo:un true ((⟨n,t,h⟩:ak).get C cF)= .fn (.yield l) [] [])(hy:ys[k]? =some y)(hxs:(xs.map fun x=>un true ((⟨n,t,h⟩:ak).get C x))=y)(hi:ek y=true)(k1:tr C f call l ys ops (i+1) os (some (k+1)) ⟨n,av t d (.val (.bool true)),h⟩ K)(k2:tr C f call l ys ops (i+1) os none ⟨n,av t d (.val (.bool false)),h⟩ K)(hs:Nat.blt d n=true:=by exact rfl):tr C f call l ys ops i (⟨some d, .call ⟨.value cF,⟨xs⟩,ts⟩,ty,pos,bg,none⟩::os) (some k) ⟨n,t,h⟩ K:=by intro hl J dn fY a W jb hS hQ;have h0:ops[i]? =some ⟨some d, .call ⟨.value cF,⟨xs⟩,ts⟩,ty,pos,bg,none⟩:=by{simpa using(hl 0).symm};obtain⟨g0,E,β,F,g1,g2,g3,g4,fB,gh⟩:=hS.start fY.j fY.IV;have hlt:d<n:=of_decide_eq_true (mG hs);have mR:=g1.ee cF;rw[hfo]at mR;obtain⟨_,v1,v2,mR,r1,r2⟩:=mR.qX;obtain⟨_,rfl⟩:=r1.fO;obtain⟨_,rfl⟩:=r2.fO;have hargs:=aG.ofMap g1 xs;rw[hxs]at hargs;have adY:aG W (aK E W F) cc [] (xs.map a.eval) y:=aG.nL hargs hi;obtain⟨fn,tmps,assign,body,hrun,hR⟩:=fY.y k _ W _ y gh hy adY;rw[List.length_cons,List.range'_succ,wpOpsIn_cons];unfold wpOpIn;simp only[h0];have hw:Region.wanted (⟨some d, .call ⟨.value cF,⟨xs⟩,ts⟩,ty,pos,bg,none⟩:Oper) (yielded ops a.tmps)=true:=rfl;rw[if_pos hw];refine⟨fun f _=>G4 none f, ?_⟩;rw[Oper.semAt_eq _ _ _ (fun c e=>by cases e)];have hex:(execOp a.eval (⟨some d, .call ⟨.value cF,⟨xs⟩,ts⟩,ty,pos,bg,none⟩:Oper)).run C.P W= .ok (.round l fn tmps assign body) W:=by{have e1:(⟨xs⟩:Array Operand).map a.eval=⟨xs.map a.eval⟩:=by{apply Array.ext';simp};simp only[execOp,resolve,mR];rw[e1];simpa[invoke,go_sem]using hrun};rw[hex,Oper.uponIn_round];refine⟨Al none,hR.mono ?_⟩;have fin:∀(z':Option Nat)(bb:Bool)(W':World),(G7 J dn z' (aK E W F) W')→(∀b,aK E W F b→W'.heap[b]? =W.heap[b]?)→tr C f call l ys ops (i+1) os z' ⟨n,av t d (.val (.bool bb)),h⟩ K→wpOpsIn Fence.wide 0 C.P ops jb (List.range' (i+1) os.length) (a.put (some d) (.bool bb)) W':=by{intro z' bb W' hj hb I0;have so:∀b,aK E W F b→b<W'.heap.size:=fun b hb'=>by{have:=hb b hb';rcases Nat.lt_or_ge b W'.heap.size with h1|h1;·{exact h1};·rw[Array.getElem?_eq_none h1,Array.getElem?_eq_getElem hb'.2.1]at this;cases this};have Bn:∀(id:Id)(b:Nat),b∉F id:=fun id b hm=>by{rw[g4]at hm;cases hm};let E':Env:={w0:=W',fc:=fun _=>False,c5:=aK E W F,m:=0,le:=Nat.zero_le _};have oG:∀b,aK E W F b→aK E' W' F b:=fun b hb'=>⟨.inl hb',so b hb',fun id=>Bn id b⟩;refine I0 (fun j=>by have:=hl (j+1);simpa[Nat.add_assoc,Nat.add_comm 1 j]using this) J dn fY _ _ jb ⟨by rw[put_defers];exact g0,E',β,F, ?_,fun _ h=>h,fB, ?_⟩ hQ;·{refine{n:=(by rw[uo];exact g1.n),df:=(by rw[put_defers,g0];exact iZ.nil (d0:=[])),slot:=fun t'=> ?_,obj:=fun id rows hr=>(by rw[fB]at hr;cases hr),dead:=fun id _=>g4 id,nd:=fun id=>(by rw[g4];exact List.nodup_nil),dx:=fun i j b hm=>absurd hm (Bn i b),dom:=g1.dom,lt:=fun id b hm=>absurd hm (Bn id b),kept:=Kept.refl _ _,cC:=fun g cs hg=>(g1.cC g cs hg).mono oG (fun b hb'=>hb b (by rcases hb' with h1|h1<;>first|exact h1|cases h1)) (fun _ _ h=>h),ns:=fun _ _ _ h=>h,kb:=fun _ _ h=>h.elim};rw[um a d t' _ (by rw[g1.n];exact hlt)];by_cases e:t'=d;·{subst e;simp only[if_true,av];exact .val rfl};·simp only[if_neg e,av];exact(g1.slot t').mono oG (fun b hb'=>hb b (by rcases hb' with h1|h1<;>first|exact h1|cases h1)) (fun _ _ h=>h)};·have key:∀b,aK E' W' F b→(aK E W F b∨W'.heap.size≤b)∧b<W'.heap.size:=fun b hb'=>⟨by rcases hb'.1 with h1|h1|h1;·{exact .inl h1};·{exact h1.elim};·exact .inr h1,hb'.2.1⟩;cases z' with|some i=>(exact fY.j _ _ _ _ _ hj (Kept.refl _ _) key)|none=>obtain⟨i,hj⟩:=hj;exact⟨i,fY.IV _ _ _ _ _ hj (Kept.refl _ _) key⟩};rintro e W'⟨⟨rfl,hj⟩|⟨rfl,hj⟩,hb⟩;·{exact fin (some (k+1)) true W' hj hb k1};·exact fin none false W' ⟨_,hj⟩ hb k2
theorem We{id:Nat}(k:tr C f call l ys ⟨os⟩ 0 os z S fun z' S'=>Q .normal z' S'):kX C f call l ys (.region id ⟨os⟩ false) z S Q:=fun J dn fY a W jb hS hQ=>by refine wpIn_region ?_;have:=k (fun j=>by simp) J dn fY a W jb hS (fun z' S' a' W' hq=>hQ _ _ _ _ _ hq);simpa[List.range_eq_range']using this
theorem J2{a:Code}(k:kX C f call l ys a z S fun e z' S'=>match e with| .normal=>kX C f call l ys b z' S' Q|e=>Q e z' S'):kX C f call l ys (.seq a b) z S Q:=fun J dn fY ac W jb hS hQ=>by refine wpIn_seq (k J dn fY ac W _ hS fun e z' S' a' W' hq lf=> ?_);cases e with|normal=>(exact hq J dn fY _ _ _ lf hQ)|_=>exact hQ _ _ _ _ _ hq lf
theorem J3{id:Nat}(k:tr C f call l ys ⟨os⟩ 0 os z S fun z' S'=>kX C f call l ys b z' S' Q):kX C f call l ys (.seq (.region id ⟨os⟩ false) b) z S Q:=J2 (We k)
theorem Wf(k:Q .normal z S):kX C f call l ys .skip z S Q:=fun J dn fY a W jb hS hQ=>wpIn_skip (hQ _ _ _ _ _ k hS)
theorem alJ(k:Q .ret z S):kX C f call l ys .ret z S Q:=fun J dn fY a W jb hS hQ=>wpIn_ret (hQ _ _ _ _ _ k hS)
theorem alI{j:Nat}(k:Q (.exit j) z S):kX C f call l ys (.exit j) z S Q:=fun J dn fY a W jb hS hQ=>wpIn_exit (hQ _ _ _ _ _ k hS)
theorem J1{x:Operand}{bb:Bool}{c1 c2:Code}(hx:un true (S.get C x)= .val (.bool bb))(k:kX C f call l ys (if bb then c1 else c2) z S Q):kX C f call l ys (.cond x c1 c2) z S Q:=fun J dn fY a W jb hS hQ=>by have hv:a.eval x= .bool bb:=by{obtain⟨_,E,β,F,g1,_⟩:=hS;have:=g1.ee x;rw[hx]at this;exact this.gy.2};exact wpIn_cond hv (by have:=k J dn fY a W jb hS hQ;cases bb<;>exact this)
theorem Wd{j:Nat}(k:kX C f call l ys c z S fun e z' S'=>Q (match e with| .exit i=>if i=j then .normal else .exit i|e=>e) z' S'):kX C f call l ys (.block j c) z S Q:=fun J dn fY a W jb hS hQ=>by refine wpIn_block (k J dn fY a W _ hS fun e z' S' a' W' hq lf=> ?_);cases e with|exit i=>(simp only[Exit.inBlock];simp only at hq;split at hq;·{rename_i e;subst e;simpa using hQ _ _ _ _ _ hq lf};·rename_i e;simpa[e]using hQ _ _ _ _ _ hq lf)|_=>exact hQ _ _ _ _ _ hq lf
end
theorem af3 {C : aO} {k : FuncId} {fn : Func} {c : Code} {call : gA} {it : List aa → Option (List (List aa))} (bI : kD C) (eI : ∀ k as r, call k as = some r → Sound C k as r) (hf : C.P.funcs[k]? = some fn) (hb : fn.body = some c) (hres : fn.results = #[]) (hnt : ∀ caps ys, it caps = some ys → 1 + caps.length ≤ fn.ntmps)
    (hh : ∀ l caps ys, it caps = some ys → ∀ id, (aH fn.ntmps (List.range (1 + caps.length)) (.fn (.yield l) [] [] :: caps)).h id = none)
    (hw : ∀ l caps ys, it caps = some ys → kX C k call l ys c (some 0) (aH fn.ntmps (List.range (1 + caps.length)) (.fn (.yield l) [] [] :: caps)) fun e z _ => (e = .normal ∨ e = .ret) ∧ (z = some ys.length ∨ z = none)) : rX C k it := by
  refine ⟨⟨fn, c, hf, hb⟩, fun caps ys hit w0 I cs hcs hI L7 l J dn W hW vl Eu hy h0 => ?_⟩
  refine callsIn_of_wp hf hb trivial ?_
  have hvl := hcs.length
  let vs : List Value := .func (.yield l) #[] #[] :: cs
  let args : List aa := .fn (.yield l) [] [] :: caps
  have E5 : vs.length = args.length := by simp [vs, args, hvl]
  have anR := hnt caps ys hit
  have ad5 : aG W I cc [] cs caps := hcs.mono (fun _ h => h) (fun b hb => hW b (by rcases hb with h | h <;> first | exact h | cases h)) (fun _ _ h => h)
  have hargs : aG W I cc [] vs args := R.cons (f1 := []) (f2 := []) (.fn .nil .nil) ad5
  have adx : ∀ b, I b → b < W.heap.size := fun b hb => by
    have := hW b hb
    rcases Nat.lt_or_ge b W.heap.size with h1 | h1
    · exact h1
    · rw [Array.getElem?_eq_none h1, Array.getElem?_eq_getElem (hI b hb)] at this; cases this
  have lp : (List.range args.length).map ((⟨vs⟩ ++ Array.replicate (fn.ntmps - (⟨vs⟩ : Array Value).size) undef : Array Value).getD · undef) = vs := by
    apply List.ext_getElem?
    intro k
    rw [List.getElem?_map]
    rcases Nat.lt_or_ge k args.length with hk | hk
    · rw [List.getElem?_range hk]
      simp only [Option.map_some]
      rw [Array.getD_eq_getD_getElem?, Array.getElem?_append_left (by simpa [E5] using hk)]
      have : k < vs.length := by omega
      simp [this]
    · rw [List.getElem?_eq_none (by simpa using hk), List.getElem?_eq_none (by omega)]
      rfl
  let E : Env := { w0 := W, fc := fun _ => False, c5 := I, m := W.heap.size, le := Nat.le_refl _ }
  have Bg : bG C E (aH fn.ntmps (List.range args.length) args) { tmps := ⟨vs⟩ ++ Array.replicate (fn.ntmps - (⟨vs⟩ : Array Value).size) undef, defers := [] } W := by
    refine aR.enter (I := I) (f := []) ?_ (iZ.nil (d0 := [])) ?_ List.nodup_range List.nodup_nil (fun b hb => ⟨.inl hb, adx b hb, by simp⟩) (fun b hb => by cases hb) (Kept.refl W _) (fun g cs hg => ?_) (fun _ _ _ h => h) (fun _ _ _ h => h)
    · have : args.length = 1 + caps.length := by simp [args]; omega
      simp [E5]; omega
    · rw [lp]; exact hargs
    · exact (L7 g cs hg).mono (fun _ h => h) (fun b hb => hW b (by rcases hb with h | h <;> first | exact h | cases h)) (fun _ _ h => h)
  have hlen : args.length = 1 + caps.length := by simp [args]; omega
  obtain ⟨β, F, hS⟩ := Bg
  have R6 : ∀ id, (aH fn.ntmps (List.range args.length) args).h id = none := by rw [hlen]; exact hh l caps ys hit
  have hF : ∀ id, F id = [] := fun id => hS.dead id (by rw [R6]; simp)
  have adV : nw C J dn (some 0) (aH fn.ntmps (List.range (1 + caps.length)) args) { tmps := ⟨vs⟩ ++ Array.replicate (fn.ntmps - (⟨vs⟩ : Array Value).size) undef, defers := [] } W := by
    rw [← hlen]
    refine ⟨rfl, E, β, F, hS, fun _ h => h, R6, ?_⟩
    exact vl _ _ _ _ _ h0 (Kept.refl _ _) fun b hb => ⟨by
      rcases hb.1 with h1 | h1 | h1
      · exact .inl h1
      · exact h1.elim
      · exact .inr h1, hb.2.1⟩
  refine hw l caps ys hit J dn ⟨bI, eI, vl, Eu, hy⟩ _ _ _ adV ?_
  rintro e z S' a' W' ⟨he, hz⟩ ⟨hd, E', β', F', _, _, _, hj⟩
  have hq : (∃ X, J ys.length X W') ∨ ∃ i X, dn i X W' := by
    rcases hz with rfl | rfl
    · exact .inl ⟨_, hj⟩
    · obtain ⟨i, hj⟩ := hj; exact .inr ⟨i, _, hj⟩
  have hr : ∃ v, (results fn a'.tmps).run C.P W' = .ok v W' := ⟨.tuple #[], by simp [results, hres]⟩
  obtain ⟨v, hr⟩ := hr
  rcases he with rfl | rfl
  · exact ⟨hd, v, hr, ⟨v, rfl⟩, hq⟩
  · exact ⟨hd, v, hr, ⟨v, rfl⟩, hq⟩
end Go.Ab
