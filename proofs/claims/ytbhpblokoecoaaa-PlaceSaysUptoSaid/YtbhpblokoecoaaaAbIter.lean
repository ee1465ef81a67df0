import Derived.Test.YtbhpblokoecoaaaAbV10
namespace Go.Ab
open Go
abbrev yu:=Nat→(Nat→Prop)→World→Prop
def yt(J:yu):Prop:=∀i X Y W W',J i X W→Kept W W' (fun _=>False)→(∀b,Y b→(X b∨W.heap.size≤b)∧b<W'.heap.size)→J i Y W'
def EJ(J dc:yu):Option Nat→(Nat→Prop)→World→Prop|some i,X,W=>J i X W|none,X,W=>∃i,dc i X W
def mC(C:aV)(J dc:yu)(z:Option Nat)(S:an)(a:Act)(W:World):Prop:=a.defers=[]∧∃E β F,aY C E W S a β F∧(∀b,¬E.fS b)∧(∀id,S.h id=none)∧EJ J dc z (aT E W F) W
/-! ### Operations that defer nothing -/
def Dw:Op→Bool| .move _| .assign _| .load _ _| .fieldAddr _ _ _| .indexAddr _ _ _| .binOp _ _ _ _ _| .unOp _ _ _| .field _ _ _| .extract _ _| .box _ _| .alloc _| .build _ _=>true| .call c=>(match c.callee with| .builtin .len=>true|_=>false)|_=>false
theorem RI{P:Program}{w w':World}{s:Sem Value}{d:Deferred}:(do pure (Next.value (←s)):Sem Next).run P w≠ .ok (.defer d) w':=by intro h;rw[Sem.run_bind]at h;cases hs:s.run P w with|ok v w1=>(rw[hs]at h;simp at h)|halt x w1=>rw[hs]at h;cases h
theorem aea {P : Program} {ρ : Operand → Value} {o : Oper} {w w' : World} {d : Deferred} (hp : Dw o.op = true) : (execOp ρ o).run P w ≠ .ok (.defer d) w' := by
  unfold Dw at hp
  split at hp
  all_goals try (rename_i ho; unfold execOp; rw [ho]; exact RI)
  · rename_i ho; unfold execOp; rw [ho]; intro h; cases h
  · rename_i ho; unfold execOp; rw [ho]; intro h; cases h
  · rename_i c ho
    split at hp
    · rename_i hc
      have e : execOp ρ o = builtin .len c.argTypes o.type (c.args.map fun | .const _ => true | _ => false) (c.args.map ρ) := by
        unfold execOp; rw [ho]; simp only [resolve, hc]; rfl
      rw [e]
      exact RI
    · cases hp
  · cases hp
theorem ad9{o:Oper}(hp:Dw o.op=true)(c:Call):o.op≠ .defer c:=fun e=>by rw[e]at hp;cases hp
section
variable{C:aV}{f:FuncId}{call:gS}{J dc:yu}{z:Option Nat}{S:an}{a:Act}{W w:World}
theorem agn{P:Program}{o:Oper}{next next':Act→World→Prop}{Q:Exit→Act→World→Prop}(hp:Dw o.op=true)(h:o.wp P a w next Q)(hn:∀w' v,next (a.put o.dst v) w'→next' (a.put o.dst v) w'):o.wpIn Fence.wide 0 P a w next' Q:=by refine⟨fun f _=>EH none f, ?_⟩;rw[Oper.semAt_eq _ _ _ (ad9 hp)];unfold Oper.wp at h;have cD:∀d w',(execOp a.eval o).run P w≠ .ok (.defer d) w':=fun d w'=>aea hp;generalize(execOp a.eval o).run P w=r at*;cases r with|ok x w'=>(cases x with|value v=>(exact hn _ v h)|skip=>(exact hn _ undef h)|defer d=>(exact absurd rfl (cD d w'))|enter f args=>(exact⟨yp none,MI (ro:=none) (h.mono fun e w'' he=>by cases e<;>first|exact hn _ _ he|exact he)⟩)|row row args=>(exact⟨yp none,Ru (ro:=none) (h.mono fun v w'' he=>hn _ _ he)⟩)|round l f tmps assign body=>(exact h.elim)|_=>exact h)|halt x w'=>cases x<;>exact h
theorem mC.start(zh:yt J)(Cq:yt dc)(h:mC C J dc z S a W):a.defers=[]∧∃E β F,aY C E W S a β F∧E.w0=W∧(∀b,¬E.fS b)∧(∀id,F id=[])∧(∀id,S.h id=none)∧EJ J dc z (aT E W F) W:=by obtain⟨h0,E,β,F,h1,h2,h3,h4⟩:=h;have hF:∀id,F id=[]:=fun id=>h1.dead id (by rw[h3];simp);refine⟨h0,E.at W F,β,F,h1.GO,rfl,fun b hb=> ?_,hF,h3, ?_⟩;·{obtain⟨id,hm⟩:=hb;rw[hF]at hm;cases hm};·have key:∀b,aT (E.at W F) W F b→(aT E W F b∨W.heap.size≤b)∧b<W.heap.size:=fun b hb=>⟨.inl (Lw.1 hb),hb.2.1⟩;cases z with|some i=>(exact zh _ _ _ _ _ h4 (Kept.refl _ _) key)|none=>obtain⟨i,h4⟩:=h4;exact⟨i,Cq _ _ _ _ _ h4 (Kept.refl _ _) key⟩
theorem mC.fin{E:Env}{F:Id→List Nat}(zh:yt J)(Cq:yt dc)(h0:E.w0=W)(hE:∀b,¬E.fS b)(hF:∀id,F id=[])(hj:EJ J dc z (aT E W F) W){S':an}{a':Act}{w':World}(hS:bP C E S' a' w')(hh:∀id,S'.h id=none)(hd:a'.defers=[]):mC C J dc z S' a' w':=by subst h0;obtain⟨β',F',h'⟩:=hS;have hk:Kept E.w0 w' (fun _=>False):=⟨h'.kept.size,fun b h1 _=>h'.kept.cT b h1 (hE b),h'.kept.os,h'.kept.out,h'.kept.eJ,h'.kept.o8⟩;have key:∀b,aT E w' F' b→(aT E E.w0 F b∨E.w0.heap.size≤b)∧b<w'.heap.size:=fun b hb=>⟨by rcases Nat.lt_or_ge b E.w0.heap.size with h|h;·{refine .inl ⟨?_,h,fun id hm=>by rw[hF]at hm;cases hm⟩;rcases hb.1 with h1|h1|h1;·{exact .inl h1};·{exact absurd h1 (hE b)};·omega};·exact .inr h,hb.2.1⟩;refine⟨hd,E,β',F',h',hE,hh, ?_⟩;cases z with|some i=>(exact zh _ _ _ _ _ hj hk key)|none=>obtain⟨i,hj⟩:=hj;exact⟨i,Cq _ _ _ _ _ hj hk key⟩
/-! ### The walk -/
structure Mf (C : aV) (call : gS) (l : Nat) (ys : List (List aa)) (J dc : yu) : Prop where
  n : kR C
  calls : ∀ k as r, call k as = some r → Sound C k as r
  j : yt J
  F4 : yt dc
  y : ∀ i X W vs y, J i X W → ys[i]? = some y → aJ W X cl [] vs y → YieldAt Fence.wide 0 C.P l ⟨vs⟩ W fun e W' => ((e = .returned (.bool true) ∧ J (i + 1) X W') ∨ (e = .returned (.bool false) ∧ dc (i + 1) X W')) ∧ ∀ b, X b → W'.heap[b]? = W.heap[b]?
def j8(C:aV)(f:FuncId)(call:gS)(l:Nat)(ys:List (List aa))(c:Code)(z:Option Nat)(S:an)(Q:Exit→Option Nat→an→Prop):Prop:=∀J dc,Mf C call l ys J dc→∀a W iJ,mC C J dc z S a W→(∀e z' S' a' W',Q e z' S'→mC C J dc z' S' a' W'→iJ e a' W')→c.wpIn Fence.wide 0 C.P iJ a W
def sk(C:aV)(f:FuncId)(call:gS)(l:Nat)(ys:List (List aa))(ops:Array Oper)(i:Nat)(os:List Oper)(z:Option Nat)(S:an)(Q:Option Nat→an→Prop):Prop:=(∀j,os[j]? =ops[i+j]?)→∀J dc,Mf C call l ys J dc→∀a W iJ,mC C J dc z S a W→(∀z' S' a' W',Q z' S'→mC C J dc z' S' a' W'→iJ .normal a' W')→wpOpsIn Fence.wide 0 C.P ops iJ (List.range' i os.length) a W
end
section
variable{C:aV}{f:FuncId}{call:gS}{l:Nat}{ys:List (List aa)}{z:Option Nat}{S:an}{Q:Exit→Option Nat→an→Prop}{c b:Code}{ops:Array Oper}{i n d:Nat}{os:List Oper}{K:Option Nat→an→Prop}
variable{t:Nat→aa}{h:Id→Option (Option Rows)}{op:Op}{ty:TypeId}{pos:String}{bq:Array Edge}{v:aa}
theorem Bq(k:K z S):sk C f call l ys ops i [] z S K:=fun _ J dc _ a W iJ hS hQ=>hQ _ _ _ _ k hS
theorem gR(he:bD C f call ⟨n,t,h⟩ true ⟨some d,op,ty,pos,bq,none⟩=some ⟨[(d,v)],[],[]⟩)(k:sk C f call l ys ops (i+1) os z ⟨n,aE t d v,h⟩ K)(hs:Nat.blt d n=true:=by exact rfl)(hp:Dw op=true:=by exact rfl):sk C f call l ys ops i (⟨some d,op,ty,pos,bq,none⟩::os) z ⟨n,t,h⟩ K:=by intro hl J dc fM a W iJ hS hQ;have h0:ops[i]? =some ⟨some d,op,ty,pos,bq,none⟩:=by{simpa using(hl 0).symm};obtain⟨g0,E,β,F,g1,g2,g3,g4,fV,gM⟩:=hS.start fM.j fM.F4;rw[List.length_cons,List.range'_succ,wpOpsIn_cons];unfold wpOpIn;simp only[h0];have hw:Region.wanted (⟨some d,op,ty,pos,bq,none⟩:Oper) (yielded ops a.tmps)=true:=rfl;rw[if_pos hw];have hlt:d<n:=of_decide_eq_true (lO hs);refine agn hp (KE (next:=bP C E ⟨n,aE t d v,h⟩) fM.n fM.calls g1 he (by simp[cI,hlt]) fun a' w' hx=>hx) fun w' u hx=> ?_;exact k (fun j=>by have:=hl (j+1);simpa[Nat.add_assoc,Nat.add_comm 1 j]using this) J dc fM _ _ iJ (mC.fin (E:=E) (F:=F) fM.j fM.F4 g2 g3 g4 gM hx fV (by rw[put_defers];exact g0)) hQ
theorem agx{dX:Operand}{xs:List Operand}{ts:Array TypeId}{k:Nat}{y:List aa}(hfo:un true ((⟨n,t,h⟩:an).get C dX)= .fn (.yield l) [] [])(hy:ys[k]? =some y)(hxs:(xs.map fun x=>un true ((⟨n,t,h⟩:an).get C x))=y)(hi:dU y=true)(k1:sk C f call l ys ops (i+1) os (some (k+1)) ⟨n,aE t d (.val (.bool true)),h⟩ K)(k2:sk C f call l ys ops (i+1) os none ⟨n,aE t d (.val (.bool false)),h⟩ K)(hs:Nat.blt d n=true:=by exact rfl):sk C f call l ys ops i (⟨some d, .call ⟨.value dX,⟨xs⟩,ts⟩,ty,pos,bq,none⟩::os) (some k) ⟨n,t,h⟩ K:=by intro hl J dc fM a W iJ hS hQ;have h0:ops[i]? =some ⟨some d, .call ⟨.value dX,⟨xs⟩,ts⟩,ty,pos,bq,none⟩:=by{simpa using(hl 0).symm};obtain⟨g0,E,β,F,g1,g2,g3,g4,fV,gM⟩:=hS.start fM.j fM.F4;have hlt:d<n:=of_decide_eq_true (lO hs);have pY:=g1.dS dX;rw[hfo]at pY;obtain⟨_,v1,v2,pY,r1,r2⟩:=pY.vZ;obtain⟨_,rfl⟩:=r1.gi;obtain⟨_,rfl⟩:=r2.gi;have hargs:=aJ.ofMap g1 xs;rw[hxs]at hargs;have Zg:aJ W (aT E W F) cl [] (xs.map a.eval) y:=aJ.mP hargs hi;obtain⟨fn,tmps,assign,body,hrun,hR⟩:=fM.y k _ W _ y gM hy Zg;rw[List.length_cons,List.range'_succ,wpOpsIn_cons];unfold wpOpIn;simp only[h0];have hw:Region.wanted (⟨some d, .call ⟨.value dX,⟨xs⟩,ts⟩,ty,pos,bq,none⟩:Oper) (yielded ops a.tmps)=true:=rfl;rw[if_pos hw];refine⟨fun f _=>EH none f, ?_⟩;rw[Oper.semAt_eq _ _ _ (fun c e=>by cases e)];have hex:(execOp a.eval (⟨some d, .call ⟨.value dX,⟨xs⟩,ts⟩,ty,pos,bq,none⟩:Oper)).run C.P W= .ok (.round l fn tmps assign body) W:=by{have e1:(⟨xs⟩:Array Operand).map a.eval=⟨xs.map a.eval⟩:=by{apply Array.ext';simp};simp only[execOp,resolve,pY];rw[e1];simpa[invoke,go_sem]using hrun};rw[hex,Oper.uponIn_round];refine⟨yp none,hR.mono ?_⟩;have fin:∀(z':Option Nat)(bb:Bool)(W':World),(EJ J dc z' (aT E W F) W')→(∀b,aT E W F b→W'.heap[b]? =W.heap[b]?)→sk C f call l ys ops (i+1) os z' ⟨n,aE t d (.val (.bool bb)),h⟩ K→wpOpsIn Fence.wide 0 C.P ops iJ (List.range' (i+1) os.length) (a.put (some d) (.bool bb)) W':=by{intro z' bb W' hj hb F6;have qX:∀b,aT E W F b→b<W'.heap.size:=fun b hb'=>by{have:=hb b hb';rcases Nat.lt_or_ge b W'.heap.size with h1|h1;·{exact h1};·rw[Array.getElem?_eq_none h1,Array.getElem?_eq_getElem hb'.2.1]at this;cases this};have zv:∀(id:Id)(b:Nat),b∉F id:=fun id b hm=>by{rw[g4]at hm;cases hm};let E':Env:=⟨W',fun _=>False,aT E W F,0,Nat.zero_le _⟩;have nP:∀b,aT E W F b→aT E' W' F b:=fun b hb'=>⟨.inl hb',qX b hb',fun id=>zv id b⟩;refine F6 (fun j=>by have:=hl (j+1);simpa[Nat.add_assoc,Nat.add_comm 1 j]using this) J dc fM _ _ iJ ⟨by rw[put_defers];exact g0,E',β,F, ?_,fun _ h=>h,fV, ?_⟩ hQ;·{refine{n:=(by rw[u5];exact g1.n),df:=(by rw[put_defers,g0];exact jP.nil),slot:=fun t'=> ?_,obj:=fun id rows hr=>(by rw[fV]at hr;cases hr),dead:=fun id _=>g4 id,nd:=fun id=>(by rw[g4];exact List.nodup_nil),ej:=fun i j b hm=>absurd hm (zv i b),dom:=g1.dom,lt:=fun id b hm=>absurd hm (zv id b),kept:=Kept.refl _ _,cU:=fun g cs hg=>(g1.cU g cs hg).mono nP (fun b hb'=>hb b (by rcases hb' with h1|h1<;>first|exact h1|cases h1)) (fun _ _ h=>h)};rw[u0 a d t' _ (by rw[g1.n];exact hlt)];by_cases e:t'=d;·{subst e;simp only[if_true,aE];exact .val rfl};·simp only[if_neg e,aE];exact(g1.slot t').mono nP (fun b hb'=>hb b (by rcases hb' with h1|h1<;>first|exact h1|cases h1)) (fun _ _ h=>h)};·have key:∀b,aT E' W' F b→(aT E W F b∨W'.heap.size≤b)∧b<W'.heap.size:=fun b hb'=>⟨by rcases hb'.1 with h1|h1|h1;·{exact .inl h1};·{exact h1.elim};·exact .inr h1,hb'.2.1⟩;cases z' with|some i=>(exact fM.j _ _ _ _ _ hj (Kept.refl _ _) key)|none=>obtain⟨i,hj⟩:=hj;exact⟨i,fM.F4 _ _ _ _ _ hj (Kept.refl _ _) key⟩};rintro e W'⟨⟨rfl,hj⟩|⟨rfl,hj⟩,hb⟩;·{exact fin (some (k+1)) true W' hj hb k1};·exact fin none false W' ⟨_,hj⟩ hb k2
theorem SE{id:Nat}(k:sk C f call l ys ⟨os⟩ 0 os z S fun z' S'=>Q .normal z' S'):j8 C f call l ys (.region id ⟨os⟩ false) z S Q:=fun J dc fM a W iJ hS hQ=>by refine wpIn_region ?_;have:=k (fun j=>by simp) J dc fM a W iJ hS (fun z' S' a' W' hq=>hQ _ _ _ _ _ hq);simpa[List.range_eq_range']using this
theorem G8{a:Code}(k:j8 C f call l ys a z S fun e z' S'=>match e with| .normal=>j8 C f call l ys b z' S' Q|e=>Q e z' S'):j8 C f call l ys (.seq a b) z S Q:=fun J dc fM ac W iJ hS hQ=>by refine wpIn_seq (k J dc fM ac W _ hS fun e z' S' a' W' hq kn=> ?_);cases e with|normal=>(exact hq J dc fM _ _ _ kn hQ)|_=>exact hQ _ _ _ _ _ hq kn
theorem G9{id:Nat}(k:sk C f call l ys ⟨os⟩ 0 os z S fun z' S'=>j8 C f call l ys b z' S' Q):j8 C f call l ys (.seq (.region id ⟨os⟩ false) b) z S Q:=G8 (SE k)
theorem SF(k:Q .normal z S):j8 C f call l ys .skip z S Q:=fun J dc fM a W iJ hS hQ=>wpIn_skip (hQ _ _ _ _ _ k hS)
theorem agv(k:Q .ret z S):j8 C f call l ys .ret z S Q:=fun J dc fM a W iJ hS hQ=>wpIn_ret (hQ _ _ _ _ _ k hS)
theorem agu{j:Nat}(k:Q (.exit j) z S):j8 C f call l ys (.exit j) z S Q:=fun J dc fM a W iJ hS hQ=>wpIn_exit (hQ _ _ _ _ _ k hS)
theorem G7{x:Operand}{bb:Bool}{c1 c2:Code}(hx:un true (S.get C x)= .val (.bool bb))(k:j8 C f call l ys (if bb then c1 else c2) z S Q):j8 C f call l ys (.cond x c1 c2) z S Q:=fun J dc fM a W iJ hS hQ=>by have hv:a.eval x= .bool bb:=by{obtain⟨_,E,β,F,g1,_⟩:=hS;have:=g1.dS x;rw[hx]at this;exact this.gl.2};exact wpIn_cond hv (by have:=k J dc fM a W iJ hS hQ;cases bb<;>exact this)
theorem SD{j:Nat}(k:j8 C f call l ys c z S fun e z' S'=>Q (match e with| .exit i=>if i=j then .normal else .exit i|e=>e) z' S'):j8 C f call l ys (.block j c) z S Q:=fun J dc fM a W iJ hS hQ=>by refine wpIn_block (k J dc fM a W _ hS fun e z' S' a' W' hq kn=> ?_);cases e with|exit i=>(simp only[Exit.inBlock];simp only at hq;split at hq;·{rename_i e;subst e;simpa using hQ _ _ _ _ _ hq kn};·rename_i e;simpa[e]using hQ _ _ _ _ _ hq kn)|_=>exact hQ _ _ _ _ _ hq kn
end
theorem abi {C : aV} {k : FuncId} {fn : Func} {c : Code} {call : gS} {it : List aa → Option (List (List aa))} (bH : kR C) (fl : ∀ k as r, call k as = some r → Sound C k as r) (hf : C.P.funcs[k]? = some fn) (hb : fn.body = some c) (hres : fn.results = #[]) (hnt : ∀ caps ys, it caps = some ys → 1 + caps.length ≤ fn.ntmps)
    (hh : ∀ l caps ys, it caps = some ys → ∀ id, (aF fn.ntmps (List.range (1 + caps.length)) (.fn (.yield l) [] [] :: caps)).h id = none)
    (hw : ∀ l caps ys, it caps = some ys → j8 C k call l ys c (some 0) (aF fn.ntmps (List.range (1 + caps.length)) (.fn (.yield l) [] [] :: caps)) fun e z _ => (e = .normal ∨ e = .ret) ∧ (z = some ys.length ∨ z = none)) : tQ C k it := by
  refine ⟨⟨fn, c, hf, hb⟩, fun caps ys hit w0 I cs hcs hI Je l J dc W hW zh Cq hy h0 => ?_⟩
  refine callsIn_of_wp hf hb trivial ?_
  have hvl := hcs.length
  let vs : List Value := .func (.yield l) #[] #[] :: cs
  let args : List aa := .fn (.yield l) [] [] :: caps
  have CW : vs.length = args.length := by simp [vs, args, hvl]
  have aiL := hnt caps ys hit
  have Zo : aJ W I cl [] cs caps := hcs.mono (fun _ h => h) (fun b hb => hW b (by rcases hb with h | h <;> first | exact h | cases h)) (fun _ _ h => h)
  have hargs : aJ W I cl [] vs args := R.cons (f1 := []) (f2 := []) (.fn .nil .nil) Zo
  have YQ : ∀ b, I b → b < W.heap.size := fun b hb => by
    have := hW b hb
    rcases Nat.lt_or_ge b W.heap.size with h1 | h1
    · exact h1
    · rw [Array.getElem?_eq_none h1, Array.getElem?_eq_getElem (hI b hb)] at this; cases this
  have kq : (List.range args.length).map ((⟨vs⟩ ++ Array.replicate (fn.ntmps - (⟨vs⟩ : Array Value).size) undef : Array Value).getD · undef) = vs := by
    apply List.ext_getElem?
    intro k
    rw [List.getElem?_map]
    rcases Nat.lt_or_ge k args.length with hk | hk
    · rw [List.getElem?_range hk]
      simp only [Option.map_some]
      rw [Array.getD_eq_getD_getElem?, Array.getElem?_append_left (by simpa [CW] using hk)]
      have : k < vs.length := by omega
      simp [this]
    · rw [List.getElem?_eq_none (by simpa using hk), List.getElem?_eq_none (by omega)]
      rfl
  let E : Env := ⟨W, fun _ => False, I, W.heap.size, Nat.le_refl _⟩
  have Jc : bP C E (aF fn.ntmps (List.range args.length) args) { tmps := ⟨vs⟩ ++ Array.replicate (fn.ntmps - (⟨vs⟩ : Array Value).size) undef, defers := [] } W := by
    refine aY.enter (I := I) (f := []) ?_ jP.nil ?_ List.nodup_range List.nodup_nil (fun b hb => ⟨.inl hb, YQ b hb, by simp⟩) (fun b hb => by cases hb) (Kept.refl W _) (fun g cs hg => ?_)
    · have : args.length = 1 + caps.length := by simp [args]; omega
      simp [CW]; omega
    · rw [kq]; exact hargs
    · exact (Je g cs hg).mono (fun _ h => h) (fun b hb => hW b (by rcases hb with h | h <;> first | exact h | cases h)) (fun _ _ h => h)
  have hlen : args.length = 1 + caps.length := by simp [args]; omega
  obtain ⟨β, F, hS⟩ := Jc
  have Oz : ∀ id, (aF fn.ntmps (List.range args.length) args).h id = none := by rw [hlen]; exact hh l caps ys hit
  have hF : ∀ id, F id = [] := fun id => hS.dead id (by rw [Oz]; simp)
  have Zd : mC C J dc (some 0) (aF fn.ntmps (List.range (1 + caps.length)) args) { tmps := ⟨vs⟩ ++ Array.replicate (fn.ntmps - (⟨vs⟩ : Array Value).size) undef, defers := [] } W := by
    rw [← hlen]
    refine ⟨rfl, E, β, F, hS, fun _ h => h, Oz, ?_⟩
    exact zh _ _ _ _ _ h0 (Kept.refl _ _) fun b hb => ⟨by
      rcases hb.1 with h1 | h1 | h1
      · exact .inl h1
      · exact h1.elim
      · exact .inr h1, hb.2.1⟩
  refine hw l caps ys hit J dc ⟨bH, fl, zh, Cq, hy⟩ _ _ _ Zd ?_
  rintro e z S' a' W' ⟨he, hz⟩ ⟨hd, E', β', F', _, _, _, hj⟩
  have hq : (∃ X, J ys.length X W') ∨ ∃ i X, dc i X W' := by
    rcases hz with rfl | rfl
    · exact .inl ⟨_, hj⟩
    · obtain ⟨i, hj⟩ := hj; exact .inr ⟨i, _, hj⟩
  have hr : ∃ v, (results fn a'.tmps).run C.P W' = .ok v W' := ⟨.tuple #[], by simp [results, hres]⟩
  obtain ⟨v, hr⟩ := hr
  rcases he with rfl | rfl
  · exact ⟨hd, v, hr, ⟨v, rfl⟩, hq⟩
  · exact ⟨hd, v, hr, ⟨v, rfl⟩, hq⟩
end Go.Ab
