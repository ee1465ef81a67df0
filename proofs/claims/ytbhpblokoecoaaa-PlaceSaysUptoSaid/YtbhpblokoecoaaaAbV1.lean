import Derived.Test.YtbhpblokoecoaaaAbFn
import Derived.Test.YtbhpblokoecoaaaAbSimp
namespace Go.Ab
open Go
abbrev gS:=FuncId→List aa→Option (aa×List aa)
abbrev aK(n:Int):Int:=IntKind.i64.wrap n
def idx{α:Type}(l:List α)(i:Int):Option α:=if 0≤i then l[i.toNat]? else none
theorem C4{α β:Type}{c:α→β}{l:List α}{i:Int}{x:α}(h:idx l i=some x):idx (l.map c) i=some (c x):=by unfold idx at*;split at h;·{rw[if_pos ‹_›];simp[h]};·cases h
theorem cE{α:Type}{l:List α}{i:Int}{x:α}(h:idx l i=some x):l[i.toNat]? =some x:=by unfold idx at h;split at h;·{exact h};·cases h
theorem F0{α:Type}{l:List α}{i:Int}{x:α}(h:idx l i=some x):0≤i∧i<(l.length:Nat):=by unfold idx at h;split at h;·{rename_i hp;refine⟨hp, ?_⟩;rcases Nat.lt_or_ge i.toNat l.length with h'|h';·{omega};·rw[List.getElem?_eq_none h']at h;cases h};·cases h
theorem E3{α β:Type}{o:Option α}{k:α→Option β}{r:β}(h:o.bind k=some r):∃x,o=some x∧k x=some r:=Option.bind_eq_some_iff.1 h
theorem bb{α β:Type}{o:Option α}{k:α→Option β}{r:β}{G:Prop}(h:o.bind k=some r)(g:∀x,o=some x→k x=some r→G):G:=by obtain⟨x,h1,h2⟩:=E3 h;exact g x h1 h2
def W(C:aV)(f:FuncId)(call:gS)(c:Code)(S:an)(Q:Exit×an→Prop):Prop:=∃x,cL C f call kE c S=some x∧Q x
theorem ar{P:Prop}(h:P:=by exact rfl):P:=h
def eP(C:aV)(f:FuncId)(call:gS)(ops:Array Oper)(i:Nat)(l:List Oper)(ks:List ie)(S:an)(Q:List ie→an→Prop):Prop:=∃x,nI C f call ops i l S=some x∧Q (ks++x.2) x.1
/-! ### Loops -/
inductive cj(σ bU:Type)where|next(s:σ)|out(x:bU)
inductive bN(bU ρ:Type)where|cu(x:bU)|ret(r:ρ)
def LoopN{σ bU:Type}(step:σ→Option (cj σ bU)):Nat→σ→Option bU|0,_=>none|m+1,s=>(step s).bind fun y=>match y with| .next s'=>LoopN step m s'| .out x=>some x
open Classical in noncomputable def Loop{σ bU:Type}(step:σ→Option (cj σ bU))(s:σ):Option bU:=if h:∃x m,LoopN step m s=some x then some (Classical.choose h)else none
theorem Hl{σ bU:Type}{step:σ→Option (cj σ bU)}:∀{m:Nat}{s:σ}{x:bU}(k:Nat),LoopN step m s=some x→LoopN step (m+k) s=some x|0,_,_,_,h=>by{simp[LoopN]at h}|m+1,s,x,k,h=>by rw[Nat.add_right_comm];simp only[LoopN,Option.bind_eq_some_iff]at h⊢;obtain⟨y,h1,h2⟩:=h;refine⟨y,h1, ?_⟩;cases y with|next s'=>(exact Hl k h2)|out x=>exact h2
theorem SO{σ bU:Type}{step:σ→Option (cj σ bU)}{m m':Nat}{s:σ}{x y:bU}(h1:LoopN step m s=some x)(h2:LoopN step m' s=some y):x=y:=by have e1:=Hl m' h1;have e2:=Hl m h2;rw[Nat.add_comm]at e2;rw[e1]at e2;exact Option.some.inj e2
theorem Hp{σ bU:Type}{step:σ→Option (cj σ bU)}{m:Nat}{s:σ}{x:bU}(h:LoopN step m s=some x):Loop step s=some x:=by unfold Loop;have hx:∃x m,LoopN step m s=some x:=⟨x,m,h⟩;rw[dif_pos hx];obtain⟨m',h'⟩:=Classical.choose_spec hx;rw[SO h' h]
theorem Ho{σ bU:Type}{step:σ→Option (cj σ bU)}{s:σ}{x:bU}(h:Loop step s=some x):∃m,LoopN step m s=some x:=by unfold Loop at h;split at h;·{rename_i hx;simp only[Option.some.injEq]at h;subst h;exact Classical.choose_spec hx};·cases h
theorem dG{σ bU:Type}(step:σ→Option (cj σ bU))(s:σ):Loop step s=(step s).bind fun y=>match y with| .next s'=>Loop step s'| .out x=>some x:=by apply Option.ext;intro x;constructor;·{intro h;obtain⟨m,h⟩:=Ho h;cases m with|zero=>(simp[LoopN]at h)|succ m=>simp only[LoopN,Option.bind_eq_some_iff]at h⊢;obtain⟨y,h1,h2⟩:=h;refine⟨y,h1, ?_⟩;cases y with|next s'=>(exact Hp h2)|out x=>exact h2};·intro h;simp only[Option.bind_eq_some_iff]at h;obtain⟨y,h1,h2⟩:=h;cases y with|next s'=>(obtain⟨m,h3⟩:=Ho h2;exact Hp (m:=m+1) (by simp only[LoopN,h1,Option.bind_some,h3]))|out x=>exact Hp (m:=1) (by simp only[LoopN,h1,Option.bind_some];exact h2)
section
variable{C:aV}{f:FuncId}{call:gS}{S:an}{n:Nat}{t:Nat→aa}{h:Id→Option (Option Rows)}
variable{Q:Exit×an→Prop}{a b c:Code}{ρ:Type}{r:ρ}{l:List Oper}{id k:Nat}
/-! ### Code -/
def EN(C:aV)(f:FuncId)(call:gS)(b:Code)(Q:Exit×an→Prop)(x:Exit×an):Prop:=match x.1 with| .normal=>∃S',ei (rO C f b) x.2=some S'∧W C f call b S' Q|_=>Q x
theorem az(h:W C f call a S (EN C f call b Q)):W C f call (.seq a b) S Q:=by obtain⟨⟨e,s⟩,h1,h2⟩:=h;cases e with|normal=>(obtain⟨S',h5,y,h3,h4⟩:=h2;exact⟨y,by simp only[cL,h1,Option.bind_some,h5,h3],h4⟩)|_=>exact⟨_,by simp only[cL,h1,Option.bind_some],h2⟩
theorem aB(h:W C f call b S Q)(hk:rO C f b=none:=by exact rfl):EN C f call b Q (.normal,S):=⟨S,by rw[hk];rfl,h⟩
theorem ay(h:Q (.ret,S)):EN C f call b Q (.ret,S):=h
theorem dI(h:Q (.exit k,S)):EN C f call b Q (.exit k,S):=h
theorem cd{x:Operand}{p:Bool}{A B:Option ρ}(hF:(if p=true then A else B)=some r)(h1:A=some r→W C f call a S Q)(h2:B=some r→W C f call b S Q)(hc:un true (S.get C x)= .val (.bool p):=by exact rfl):W C f call (.cond x a b) S Q:=by cases p with|true=>(obtain⟨y,h3,h4⟩:=h1 (by simpa using hF);exact⟨y,by simp only[cL,hc];simpa using h3,h4⟩)|false=>obtain⟨y,h3,h4⟩:=h2 (by simpa using hF);exact⟨y,by simp only[cL,hc];simpa using h3,h4⟩
theorem ax(h:Q (.normal,S)):W C f call .skip S Q:=⟨_,rfl,h⟩
theorem rt(h:Q (.ret,S)):W C f call .ret S Q:=⟨_,rfl,h⟩
theorem ex(h:Q (.exit k,S)):W C f call (.exit k) S Q:=⟨_,rfl,h⟩
def sd(C:aV)(f:FuncId)(k:Nat)(Q:Exit×an→Prop)(x:Exit×an):Prop:=match x.1 with| .normal=>∃S',ei (C.oB f k) x.2=some S'∧Q (.normal,S')| .exit j=>if j=k then∃S',ei (C.oB f k) x.2=some S'∧Q (.normal,S')else Q (.exit j,x.2)|_=>Q x
theorem cn(h:W C f call c S (sd C f k Q)):W C f call (.block k c) S Q:=by obtain⟨⟨e,s⟩,h1,h2⟩:=h;cases e with|normal=>(obtain⟨S',h3,h4⟩:=h2;exact⟨_,by simp only[cL,h1,Option.bind_some,h3,Option.map_some],h4⟩)|exit j=>(simp only[sd]at h2;split at h2;·{rename_i hj;obtain⟨S',h3,h4⟩:=h2;exact⟨_,by simp only[cL,h1,Option.bind_some,hj,if_true,h3,Option.map_some],h4⟩};·rename_i hj;exact⟨_,by simp only[cL,h1,Option.bind_some,hj,if_false],h2⟩)|_=>exact⟨_,by simp only[cL,h1,Option.bind_some],h2⟩
theorem bp(h:Q (.normal,S))(hk:C.oB f k=none:=by exact rfl):sd C f k Q (.normal,S):=⟨S,by rw[hk];rfl,h⟩
theorem aS(h:Q (.ret,S)):sd C f k Q (.ret,S):=h
theorem GK(h:Q (.normal,S))(hk:C.oB f k=none:=by exact rfl):sd C f k Q (.exit k,S):=by simp only[sd,if_true];exact⟨S,by rw[hk];rfl,h⟩
/-! ### Places where the state is told anew -/
theorem Rc{S':an}(hc:ei (C.oB f k) S=some S')(h:Q (.normal,S')):sd C f k Q (.exit k,S):=by simp only[sd,if_true];exact⟨S',hc,h⟩
def Hq(σ:Type)(o:Option (Bool×List Nat))(rep:σ→an)(qx:σ→Option ρ)(r:ρ)(Q:Exit×an→Prop)(x:Exit×an):Prop:=match x.1 with| .normal=>∃s,ei o x.2=some (rep s)∧qx s=some r|_=>Q x
theorem cK{σ:Type}(rep:σ→an)(qx:σ→Option ρ)(ha:W C f call a S (Hq σ (rO C f b) rep qx r Q))(hk:∀s,qx s=some r→W C f call b (rep s) Q):W C f call (.seq a b) S Q:=by refine az ?_;obtain⟨⟨e,s⟩,h1,h2⟩:=ha;refine⟨_,h1, ?_⟩;cases e with|normal=>(obtain⟨s,h3,h4⟩:=h2;exact⟨_,h3,hk s h4⟩)|_=>exact h2
theorem aW{σ:Type}{o:Option (Bool×List Nat)}{rep:σ→an}{qx:σ→Option ρ}(s:σ)(hF:qx s=some r)(hc:ei o S=some (rep s)):Hq σ o rep qx r Q (.normal,S):=⟨s,hc,hF⟩
theorem hU{σ:Type}{o:Option (Bool×List Nat)}{rep:σ→an}{qx:σ→Option ρ}(h:Q (.ret,S)):Hq σ o rep qx r Q (.ret,S):=h
section
variable{σ:Type}{rep:σ→an}{qx:σ→Option ρ}
end
/-! ### Regions -/
section
variable{K:List ie→an→Prop}{ops:Array Oper}{i:Nat}{ks:List ie}
theorem rg(h:eP C f call ⟨l⟩ 0 l [] S fun _ S'=>Q (.normal,S'))(hk:C.nB f id=none:=by exact rfl)(hz:C.qT f id=[]:=by exact rfl):W C f call (.region id ⟨l⟩ false) S Q:=by obtain⟨x,h1,h2⟩:=h;exact⟨_,by simp[cL,qP,h1,hk,ei,qM,hz,lV],h2⟩
def Hj(C:aV)(f:FuncId)(id:Nat)(P:an→Prop)(ks:List ie)(S:an):Prop:=oF (C.gU f id) ks=true∧P S
theorem mg(h:eP C f call ⟨l⟩ 0 l [] S (Hj C f id fun S'=>Q (.normal,S')))(hk:C.nB f id=none:=by exact rfl)(hz:C.qT f id=[]:=by exact rfl):W C f call (.region id ⟨l⟩ true) S Q:=by obtain⟨x,h1,h2,h3⟩:=h;simp only[List.nil_append]at h2;exact⟨_,by simp[cL,qP,h1,h2,hk,ei,qM,hz,lV],h3⟩
theorem af(h:eP C f call ⟨l⟩ 0 l [] S fun _ S'=>W C f call b S' Q)(hk:C.nB f id=none:=by exact rfl)(hz:C.qT f id=[]:=by exact rfl)(hk2:rO C f b=none:=by exact rfl):W C f call (.seq (.region id ⟨l⟩ false) b) S Q:=az (rg (by obtain⟨x,h1,h2⟩:=h;exact⟨x,h1,aB h2 hk2⟩) hk hz)
theorem cS(h:eP C f call ⟨l⟩ 0 l [] S (Hj C f id fun S'=>W C f call b S' Q))(hk:C.nB f id=none:=by exact rfl)(hz:C.qT f id=[]:=by exact rfl)(hk2:rO C f b=none:=by exact rfl):W C f call (.seq (.region id ⟨l⟩ true) b) S Q:=az (mg (by obtain⟨x,h1,h2,h3⟩:=h;exact⟨x,h1,h2,aB h3 hk2⟩) hk hz)
def Bu(l:List Nat)(K:an→Prop)(S:an):Prop:=∃S',lV l S=some S'∧K S'
theorem aeG(h:eP C f call ⟨l⟩ 0 l [] S fun _ S'=>Bu (C.qT f id) (fun eM=>Q (.normal,eM)) S')(hk:C.nB f id=none:=by exact rfl):W C f call (.region id ⟨l⟩ false) S Q:=by obtain⟨x,h1,eM,h2,h3⟩:=h;exact⟨_,by simp[cL,qP,h1,hk,ei,qM,h2],h3⟩
theorem K3(h:eP C f call ⟨l⟩ 0 l [] S fun _ S'=>Bu (C.qT f id) (fun eM=>W C f call b eM Q) S')(hk:C.nB f id=none:=by exact rfl)(hk2:rO C f b=none:=by exact rfl):W C f call (.seq (.region id ⟨l⟩ false) b) S Q:=az (aeG (by obtain⟨x,h1,eM,h2,h3⟩:=h;exact⟨x,h1,eM,h2,aB h3 hk2⟩) hk)
theorem IF{K:an→Prop}{l:List Nat}(k:K S)(hl:l=[]:=by exact rfl):Bu l K S:=by subst hl;exact⟨_,rfl,k⟩
theorem IE{s:Nat}{id:Id}{cells:List aa}(hs:t s= .mp id 0 0:=by exact rfl)(hid:h id=some (some [cells]):=by exact rfl)(hi:dU cells=true:=by exact rfl):qR ⟨n,t,h⟩ s=some ⟨n,aE t s (.au cells),aE h id (some none)⟩:=by simp only[qR,hs,hid,hi,if_true]
theorem IG{K:an→Prop}{S':an}{l:List Nat}(s:Nat)(sl:List Nat)(he:qR S s=some S')(k:Bu sl K S')(hl:l=s::sl:=by exact rfl):Bu l K S:=by subst hl;obtain⟨eM,h1,h2⟩:=k;exact⟨eM,by simp only[lV,he,Option.bind_some];exact h1,h2⟩
theorem nl(h:K ks S):eP C f call ops i [] ks S K:=⟨_,rfl,by simpa using h⟩
def n7(ks:List ie):Bool:=ks.all fun k=>k.2.2.isEmpty
theorem ur(gU:List (Nat×Nat)):∀ks:List ie,n7 ks=true→oF gU ks=true|[],_=>rfl|x::l,hk=>by simp only[n7,List.all_cons,Bool.and_eq_true]at hk;have h1:=ur gU l hk.2;simp only[oF,h1,Bool.and_true,List.all_eq_true,Bool.or_eq_true];intro y hy;right;have h2:=List.all_eq_true.1 hk.2 y hy;simp only[List.isEmpty_iff]at hk h2;simp[su,hk.1,h2]
theorem aeY{a b:List ie}(h:n7 a=true)(k:n7 b=true):n7 (a++b)=true:=by simp only[n7,List.all_append,Bool.and_eq_true]at*;exact⟨h,k⟩
theorem gG{gU:List (Nat×Nat)}{ks:List ie}(h:n7 ks=true:=by repeat'(first|apply aeY|assumption|exact rfl)):oF gU ks=true:=ur gU ks h
theorem GM(a b:List ie):n7 (a++b)=(n7 a&&n7 b):=by simp[n7]
theorem cx{P:an→Prop}(h:P S)(hf:oF (C.gU f id) ks=true:=by first|exact rfl|exact ur _ _ rfl|(apply ur;simp[GM, *];done)|(apply ur;simp only[GM,Bool.and_eq_true];(repeat' constructor)<;>first|assumption|rfl)):eP C f call ops i [] ks S (Hj C f id P):=⟨_,rfl,by simpa using hf,h⟩
def EK(σ:Type)(C:aV)(f:FuncId)(id:Nat)(draw:Bool)(rep:σ→an)(x:σ)(ks:List ie)(S:an):Prop:=(draw=true→oF (C.gU f id) ks=true)∧ei (C.nB f id) S=some (rep x)
theorem xR{σ:Type}{draw:Bool}{A:Option σ}{tM:σ→Option ρ}(rep:σ→an)(hF:A.bind tM=some r)(k1:∀x,A=some x→eP C f call ⟨l⟩ 0 l [] S (EK σ C f id draw rep x))(k2:∀x,tM x=some r→Q (.normal,rep x))(hz:C.qT f id=[]:=by exact rfl):W C f call (.region id ⟨l⟩ draw) S Q:=by obtain⟨x,h1,h2⟩:=E3 hF;obtain⟨y,h3,h4,h5⟩:=k1 x h1;simp only[List.nil_append]at h4;refine⟨_, ?_,k2 x h2⟩;simp only[cL,qP,h3,Option.bind_some];cases draw with|false=>(simp[qM,hz,lV,h5])|true=>simp[h4 rfl,qM,hz,lV,h5]
theorem dZ{σ:Type}{draw:Bool}{A:Option σ}{tM:σ→Option ρ}(rep:σ→an)(hF:A.bind tM=some r)(k1:∀x,A=some x→eP C f call ⟨l⟩ 0 l [] S (EK σ C f id draw rep x))(k2:∀x,tM x=some r→W C f call b (rep x) Q)(hk2:rO C f b=none:=by exact rfl)(hz:C.qT f id=[]:=by exact rfl):W C f call (.seq (.region id ⟨l⟩ draw) b) S Q:=az (xR rep hF k1 (fun x hx=>aB (k2 x hx) hk2) hz)
theorem cv{σ:Type}{rep:σ→an}{x:σ}(hc:ei (C.nB f id) S=some (rep x)):eP C f call ops i [] ks S (EK σ C f id false rep x):=⟨_,rfl,And.intro (fun e=>Bool.noConfusion e) hc⟩
theorem eB{σ:Type}{rep:σ→an}{x:σ}(hc:ei (C.nB f id) S=some (rep x))(hf:oF (C.gU f id) ks=true:=by first|exact rfl|exact ur _ _ rfl|(apply ur;simp[GM, *];done)|(apply ur;simp only[GM,Bool.and_eq_true];(repeat' constructor)<;>first|assumption|rfl)):eP C f call ops i [] ks S (EK σ C f id true rep x):=⟨_,rfl,And.intro (fun _=>by simpa using hf) hc⟩
variable{d:Nat}{ty:TypeId}{pos:String}{bq:Array Edge}{bJ:Option (Nat×Bool)}{op:Op}{v:aa}{g:Bool}
theorem Z1(i:Nat)(e:bx)(l:List ie):hkey i e l=hkey i e []++l:=by unfold hkey;split<;>simp
theorem AS{o:Oper}{e:bx}(he:ue C f call S ops o=some e)(hs:(e.ec.all fun x=>decide (x.1<S.n))=true)(k:eP C f call ops (i+1) l (ks++hkey i e []) (S.app e) K):eP C f call ops i (o::l) ks S K:=by obtain⟨x,h1,h2⟩:=k;refine⟨(x.1,hkey i e x.2), ?_, ?_⟩;·{simp only[nI,he,Option.bind_some];rw[if_pos hs,h1];rfl};·rw[Z1];simpa using h2
theorem lO{d n:Nat}(h:Nat.blt d n=true):decide (d<n)=true:=by simp[Nat.blt]at h⊢;omega
theorem pp(he:bD C f call ⟨n,t,h⟩ true ⟨some d,op,ty,pos,bq,none⟩=some ⟨[(d,v)],[],[]⟩)(k:eP C f call ops (i+1) l ks ⟨n,aE t d v,h⟩ K)(hs:Nat.blt d n=true:=by exact rfl):eP C f call ops i (⟨some d,op,ty,pos,bq,none⟩::l) ks ⟨n,t,h⟩ K:=AS (e:=⟨[(d,v)],[],[]⟩) he (by simpa using lO hs) (by simpa[hkey,an.app]using k)
theorem rr{y:Id}{rd:List Id}(he:bD C f call ⟨n,t,h⟩ true ⟨some d,op,ty,pos,bq,none⟩=some ⟨[(d,v)],y::rd,[]⟩)(k:eP C f call ops (i+1) l (ks++[(i,y::rd,[])]) ⟨n,aE t d v,h⟩ K)(hs:Nat.blt d n=true:=by exact rfl):eP C f call ops i (⟨some d,op,ty,pos,bq,none⟩::l) ks ⟨n,t,h⟩ K:=AS (e:=⟨[(d,v)],y::rd,[]⟩) he (by simpa using lO hs) (by simpa[hkey,an.app]using k)
theorem ww{Dq:Option Nat}{ec:List (Nat×aa)}{rd:List Id}{x:Id×Option Rows}{wr:List (Id×Option Rows)}(he:bD C f call ⟨n,t,h⟩ true ⟨Dq,op,ty,pos,bq,none⟩=some ⟨ec,rd,x::wr⟩)(k:eP C f call ops (i+1) l (ks++[(i,rd,(x::wr).map (·.1))]) ⟨n,dO t ec,bL h (x::wr)⟩ K)(hs:(ec.all fun x=>Nat.blt x.1 n)=true:=by exact rfl):eP C f call ops i (⟨Dq,op,ty,pos,bq,none⟩::l) ks ⟨n,t,h⟩ K:=AS (e:=⟨ec,rd,x::wr⟩) he (by rw[List.all_eq_true]at hs⊢;exact fun y hy=>lO (hs y hy)) (by simpa[hkey,an.app]using k)
theorem ai{j:Nat}{wt:Bool}{l0:List Oper}(hg:uh wt ⟨n,t,h⟩ (pK l0 j)=some g)(he:bD C f call ⟨n,t,h⟩ g ⟨some d,op,ty,pos,bq,some (j,wt)⟩=some ⟨[(d,v)],[],[]⟩)(k:eP C f call ⟨l0⟩ (i+1) l ks ⟨n,aE t d (.dj g v),h⟩ K)(hs:Nat.blt d n=true:=by exact rfl):eP C f call ⟨l0⟩ i (⟨some d,op,ty,pos,bq,some (j,wt)⟩::l) ks ⟨n,t,h⟩ K:=AS (e:=⟨[(d, .dj g v)],[],[]⟩) (by rw[Ij,hg,H6,Ik,he];rfl) (by simpa using lO hs) (by simpa[hkey,an.app]using k)
theorem D1{j:Nat}{wt:Bool}{l0:List Oper}{y:Id}{rd:List Id}(hg:uh wt ⟨n,t,h⟩ (pK l0 j)=some g)(he:bD C f call ⟨n,t,h⟩ g ⟨some d,op,ty,pos,bq,some (j,wt)⟩=some ⟨[(d,v)],y::rd,[]⟩)(k:eP C f call ⟨l0⟩ (i+1) l (ks++[(i,y::rd,[])]) ⟨n,aE t d (.dj g v),h⟩ K)(hs:Nat.blt d n=true:=by exact rfl):eP C f call ⟨l0⟩ i (⟨some d,op,ty,pos,bq,some (j,wt)⟩::l) ks ⟨n,t,h⟩ K:=AS (e:=⟨[(d, .dj g v)],y::rd,[]⟩) (by rw[Ij,hg,H6,Ik,he];rfl) (by simpa using lO hs) (by simpa[hkey,an.app]using k)
theorem pt{j:Nat}{wt:Bool}{l0:List Oper}(hg:uh wt ⟨n,t,h⟩ (pK l0 j)=some true)(he:bD C f call ⟨n,t,h⟩ true ⟨some d,op,ty,pos,bq,some (j,wt)⟩=some ⟨[(d,v)],[],[]⟩)(k:eP C f call ⟨l0⟩ (i+1) l ks ⟨n,aE t d (.dj true v),h⟩ K)(hs:Nat.blt d n=true:=by exact rfl):eP C f call ⟨l0⟩ i (⟨some d,op,ty,pos,bq,some (j,wt)⟩::l) ks ⟨n,t,h⟩ K:=ai hg he k hs
theorem eZ{j:Nat}{wt:Bool}{l0:List Oper}{y:Id}{rd:List Id}(hg:uh wt ⟨n,t,h⟩ (pK l0 j)=some true)(he:bD C f call ⟨n,t,h⟩ true ⟨some d,op,ty,pos,bq,some (j,wt)⟩=some ⟨[(d,v)],y::rd,[]⟩)(k:eP C f call ⟨l0⟩ (i+1) l (ks++[(i,y::rd,[])]) ⟨n,aE t d (.dj true v),h⟩ K)(hs:Nat.blt d n=true:=by exact rfl):eP C f call ⟨l0⟩ i (⟨some d,op,ty,pos,bq,some (j,wt)⟩::l) ks ⟨n,t,h⟩ K:=D1 hg he k hs
theorem gf{wt:Bool}{d:Nat}{u:aa}{Dq:Option Nat}(hd:Dq=some d:=by exact rfl)(h:S.t d= .dj false u:=by exact rfl):uh wt S Dq=some false:=by subst hd;rw[N1,h];cases u with|val v=>(cases v<;>simp[y9])|_=>rfl
theorem no{d:Nat}{j:Nat}{wt:Bool}{l0:List Oper}(k:∀u ks',n7 ks'=true→eP C f call ⟨l0⟩ (i+1) l (ks++ks') ⟨n,aE t d (.dj false u),h⟩ K)(hg:uh wt ⟨n,t,h⟩ (pK l0 j)=some false:=by first|exact gf|exact rfl)(hs:Nat.blt d n=true:=by exact rfl):eP C f call ⟨l0⟩ i (⟨some d,op,ty,pos,bq,some (j,wt)⟩::l) ks ⟨n,t,h⟩ K:=by have hj:∀(v:aa)(rd:List Id),ue C f call ⟨n,t,h⟩ ⟨l0⟩ ⟨some d,op,ty,pos,bq,some (j,wt)⟩=some ⟨[(d, .dj false v)],rd,[]⟩→eP C f call ⟨l0⟩ i (⟨some d,op,ty,pos,bq,some (j,wt)⟩::l) ks ⟨n,t,h⟩ K:=fun v rd he=>AS he (by simpa using lO hs) (by have:=k v (hkey i ⟨[(d, .dj false v)],rd,[]⟩ []) (by unfold hkey n7;split<;>simp);simpa[an.app,dO]using this);rw[Ij,hg,H6,Ik]at hj;cases he:bD C f call ⟨n,t,h⟩ false ⟨some d,op,ty,pos,bq,some (j,wt)⟩with|none=>(exact hj .bX [] (by rw[he];rfl))|some e=>obtain⟨ec,rd,wr⟩:=e;cases wr with|cons x wr=>(exact hj .bX [] (by rw[he];rfl))|nil=>rcases KZ he with⟨v,hv⟩|⟨hv,_⟩;·{simp only[put]at hv;subst hv;exact hj v rd (by rw[he];rfl)};·exact absurd rfl hv
theorem c6{A B:Option ρ}{d:Nat}{p:Bool}(hF:(if p=true then A else B)=some r)(h1:A=some r→eP C f call ops i l ks ⟨n,aE t d (.val (.bool true)),h⟩ K)(h2:B=some r→eP C f call ops i l ks ⟨n,aE t d (.val (.bool false)),h⟩ K)(hd:t d= .val (.bool p):=by exact rfl):eP C f call ops i l ks ⟨n,t,h⟩ K:=by have e:∀q,t d= .val (.bool q)→aE t d (.val (.bool q))=t:=fun q hq=>by{funext j;unfold aE;split;·{rename_i hj;subst hj;exact hq.symm};·rfl};cases p with|true=>(have:=h1 (by simpa using hF);rwa[e _ hd]at this)|false=>have:=h2 (by simpa using hF);rwa[e _ hd]at this
theorem rR{A B:Option ρ}{d:Nat}{p:Bool}(hF:(if p=true then A else B)=some r)(h1:A=some r→eP C f call ops i l ks ⟨n,aE t d (.dj true (.val (.bool true))),h⟩ K)(h2:B=some r→eP C f call ops i l ks ⟨n,aE t d (.dj true (.val (.bool false))),h⟩ K)(hd:t d= .dj true (.val (.bool p)):=by exact rfl):eP C f call ops i l ks ⟨n,t,h⟩ K:=by have e:∀q,t d= .dj true (.val (.bool q))→aE t d (.dj true (.val (.bool q)))=t:=fun q hq=>by{funext j;unfold aE;split;·{rename_i hj;subst hj;exact hq.symm};·rfl};cases p with|true=>(have:=h1 (by simpa using hF);rwa[e _ hd]at this)|false=>have:=h2 (by simpa using hF);rwa[e _ hd]at this
end
end
end Go.Ab
