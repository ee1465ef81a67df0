import Derived.Test.YtmboghefgckkpaaGreatAbFn
import Derived.Test.YtmboghefgckkpaaGreatAbSimp
namespace Go.Ab
open Go
abbrev hM:=FuncId→List aa→Option (aa×List aa)
abbrev aO(n:Int):Int:=IntKind.i64.wrap n
def idx{α:Type}(l:List α)(i:Int):Option α:=if 0≤i then l[i.toNat]? else none
theorem Gh{α β:Type}{c:α→β}{l:List α}{i:Int}{x:α}(h:idx l i=some x):idx (l.map c) i=some (c x):=by unfold idx at*;split at h;·{rw[if_pos ‹_›];simp[h]};·cases h
theorem cW{α:Type}{l:List α}{i:Int}{x:α}(h:idx l i=some x):l[i.toNat]? =some x:=by unfold idx at h;split at h;·{exact h};·cases h
theorem J4{α:Type}{l:List α}{i:Int}{x:α}(h:idx l i=some x):0≤i∧i<(l.length:Nat):=by unfold idx at h;split at h;·{rename_i hp;refine⟨hp, ?_⟩;rcases Nat.lt_or_ge i.toNat l.length with h'|h';·{omega};·rw[List.getElem?_eq_none h']at h;cases h};·cases h
theorem IV{α β:Type}{o:Option α}{k:α→Option β}{r:β}(h:o.bind k=some r):∃x,o=some x∧k x=some r:=Option.bind_eq_some_iff.1 h
theorem bb{α β:Type}{o:Option α}{k:α→Option β}{r:β}{G:Prop}(h:o.bind k=some r)(g:∀x,o=some x→k x=some r→G):G:=by obtain⟨x,h1,h2⟩:=IV h;exact g x h1 h2
def W(C:aU)(f:FuncId)(call:hM)(c:Code)(S:an)(Q:Exit×an→Prop):Prop:=∃x,c6 C f call lz c S=some x∧Q x
theorem ar{P:Prop}(h:P:=by exact rfl):P:=h
def eM(C:aU)(f:FuncId)(call:hM)(ops:Array Oper)(i:Nat)(l:List Oper)(ks:List jG)(S:an)(Q:List jG→an→Prop):Prop:=∃x,pZ C f call ops i l S=some x∧Q (ks++x.2) x.1
/-! ### Loops -/
inductive cx(σ ck:Type)where|next(s:σ)|out(x:ck)
inductive b5(ck ρ:Type)where|cF(x:ck)|ret(r:ρ)
def LoopN{σ ck:Type}(step:σ→Option (cx σ ck)):Nat→σ→Option ck|0,_=>none|m+1,s=>(step s).bind fun y=>match y with| .next s'=>LoopN step m s'| .out x=>some x
open Classical in noncomputable def Loop{σ ck:Type}(step:σ→Option (cx σ ck))(s:σ):Option ck:=if h:∃x m,LoopN step m s=some x then some (Classical.choose h)else none
theorem Li{σ ck:Type}{step:σ→Option (cx σ ck)}:∀{m:Nat}{s:σ}{x:ck}(k:Nat),LoopN step m s=some x→LoopN step (m+k) s=some x|0,_,_,_,h=>by{simp[LoopN]at h}|m+1,s,x,k,h=>by rw[Nat.add_right_comm];simp only[LoopN,Option.bind_eq_some_iff]at h⊢;obtain⟨y,h1,h2⟩:=h;refine⟨y,h1, ?_⟩;cases y with|next s'=>(exact Li k h2)|out x=>exact h2
theorem Yg{σ ck:Type}{step:σ→Option (cx σ ck)}{m m':Nat}{s:σ}{x y:ck}(h1:LoopN step m s=some x)(h2:LoopN step m' s=some y):x=y:=by have e1:=Li m' h1;have e2:=Li m h2;rw[Nat.add_comm]at e2;rw[e1]at e2;exact Option.some.inj e2
theorem Lk{σ ck:Type}{step:σ→Option (cx σ ck)}{m:Nat}{s:σ}{x:ck}(h:LoopN step m s=some x):Loop step s=some x:=by unfold Loop;have hx:∃x m,LoopN step m s=some x:=⟨x,m,h⟩;rw[dif_pos hx];obtain⟨m',h'⟩:=Classical.choose_spec hx;rw[Yg h' h]
theorem Lj{σ ck:Type}{step:σ→Option (cx σ ck)}{s:σ}{x:ck}(h:Loop step s=some x):∃m,LoopN step m s=some x:=by unfold Loop at h;split at h;·{rename_i hx;simp only[Option.some.injEq]at h;subst h;exact Classical.choose_spec hx};·cases h
theorem dX{σ ck:Type}(step:σ→Option (cx σ ck))(s:σ):Loop step s=(step s).bind fun y=>match y with| .next s'=>Loop step s'| .out x=>some x:=by apply Option.ext;intro x;constructor;·{intro h;obtain⟨m,h⟩:=Lj h;cases m with|zero=>(simp[LoopN]at h)|succ m=>simp only[LoopN,Option.bind_eq_some_iff]at h⊢;obtain⟨y,h1,h2⟩:=h;refine⟨y,h1, ?_⟩;cases y with|next s'=>(exact Lk h2)|out x=>exact h2};·intro h;simp only[Option.bind_eq_some_iff]at h;obtain⟨y,h1,h2⟩:=h;cases y with|next s'=>(obtain⟨m,h3⟩:=Lj h2;exact Lk (m:=m+1) (by simp only[LoopN,h1,Option.bind_some,h3]))|out x=>exact Lk (m:=1) (by simp only[LoopN,h1,Option.bind_some];exact h2)
section
variable{C:aU}{f:FuncId}{call:hM}{S:an}{n:Nat}{t:Nat→aa}{h:Id→Option (Option Rows)}
variable{Q:Exit×an→Prop}{a b c:Code}{ρ:Type}{r:ρ}{l:List Oper}{id k:Nat}
/-! ### Code -/
def IC(C:aU)(f:FuncId)(call:hM)(b:Code)(Q:Exit×an→Prop)(x:Exit×an):Prop:=match x.1 with| .normal=>∃S',eH (rN C f b) x.2=some S'∧W C f call b S' Q|_=>Q x
theorem aE(h:W C f call a S (IC C f call b Q)):W C f call (.seq a b) S Q:=by obtain⟨⟨e,s⟩,h1,h2⟩:=h;cases e with|normal=>(obtain⟨S',h5,y,h3,h4⟩:=h2;exact⟨y,by simp only[c6,h1,Option.bind_some,h5,h3],h4⟩)|_=>exact⟨_,by simp only[c6,h1,Option.bind_some],h2⟩
theorem aF(h:W C f call b S Q)(hk:rN C f b=none:=by exact rfl):IC C f call b Q (.normal,S):=⟨S,by rw[hk];rfl,h⟩
theorem aD(h:Q (.ret,S)):IC C f call b Q (.ret,S):=h
theorem eE(h:Q (.exit k,S)):IC C f call b Q (.exit k,S):=h
theorem cd{x:Operand}{p:Bool}{A B:Option ρ}(hF:(if p=true then A else B)=some r)(h1:A=some r→W C f call a S Q)(h2:B=some r→W C f call b S Q)(hc:un true (S.get C x)= .val (.bool p):=by exact rfl):W C f call (.cond x a b) S Q:=by cases p with|true=>(obtain⟨y,h3,h4⟩:=h1 (by simpa using hF);exact⟨y,by simp only[c6,hc];simpa using h3,h4⟩)|false=>obtain⟨y,h3,h4⟩:=h2 (by simpa using hF);exact⟨y,by simp only[c6,hc];simpa using h3,h4⟩
theorem acF{x:Operand}(h1:W C f call a S Q)(hc:un true (S.get C x)= .val (.bool true):=by exact rfl):W C f call (.cond x a b) S Q:=by obtain⟨y,h3,h4⟩:=h1;exact⟨y,by simp only[c6,hc];simpa using h3,h4⟩
theorem acE{x:Operand}(h1:W C f call b S Q)(hc:un true (S.get C x)= .val (.bool false):=by exact rfl):W C f call (.cond x a b) S Q:=by obtain⟨y,h3,h4⟩:=h1;exact⟨y,by simp only[c6,hc];simpa using h3,h4⟩
theorem aB(h:Q (.normal,S)):W C f call .skip S Q:=⟨_,rfl,h⟩
theorem rt(h:Q (.ret,S)):W C f call .ret S Q:=⟨_,rfl,h⟩
theorem ex(h:Q (.exit k,S)):W C f call (.exit k) S Q:=⟨_,rfl,h⟩
def uX(C:aU)(f:FuncId)(k:Nat)(Q:Exit×an→Prop)(x:Exit×an):Prop:=match x.1 with| .normal=>∃S',eH (C.qS f k) x.2=some S'∧Q (.normal,S')| .exit j=>if j=k then∃S',eH (C.qS f k) x.2=some S'∧Q (.normal,S')else Q (.exit j,x.2)|_=>Q x
theorem cu(h:W C f call c S (uX C f k Q)):W C f call (.block k c) S Q:=by obtain⟨⟨e,s⟩,h1,h2⟩:=h;cases e with|normal=>(obtain⟨S',h3,h4⟩:=h2;exact⟨_,by simp only[c6,h1,Option.bind_some,h3,Option.map_some],h4⟩)|exit j=>(simp only[uX]at h2;split at h2;·{rename_i hj;obtain⟨S',h3,h4⟩:=h2;exact⟨_,by simp only[c6,h1,Option.bind_some,hj,if_true,h3,Option.map_some],h4⟩};·rename_i hj;exact⟨_,by simp only[c6,h1,Option.bind_some,hj,if_false],h2⟩)|_=>exact⟨_,by simp only[c6,h1,Option.bind_some],h2⟩
theorem bt(h:Q (.normal,S))(hk:C.qS f k=none:=by exact rfl):uX C f k Q (.normal,S):=⟨S,by rw[hk];rfl,h⟩
theorem aT(h:Q (.ret,S)):uX C f k Q (.ret,S):=h
theorem V3(h:Q (.normal,S))(hk:C.qS f k=none:=by exact rfl):uX C f k Q (.exit k,S):=by simp only[uX,if_true];exact⟨S,by rw[hk];rfl,h⟩
/-! ### Places where the state is told anew -/
theorem V4{S':an}(hc:eH (C.qS f k) S=some S')(h:Q (.normal,S')):uX C f k Q (.exit k,S):=by simp only[uX,if_true];exact⟨S',hc,h⟩
def Ll(σ:Type)(o:Option (Bool×List Nat))(rep:σ→an)(s8:σ→Option ρ)(r:ρ)(Q:Exit×an→Prop)(x:Exit×an):Prop:=match x.1 with| .normal=>∃s,eH o x.2=some (rep s)∧s8 s=some r|_=>Q x
theorem cU{σ:Type}(rep:σ→an)(s8:σ→Option ρ)(ha:W C f call a S (Ll σ (rN C f b) rep s8 r Q))(hk:∀s,s8 s=some r→W C f call b (rep s) Q):W C f call (.seq a b) S Q:=by refine aE ?_;obtain⟨⟨e,s⟩,h1,h2⟩:=ha;refine⟨_,h1, ?_⟩;cases e with|normal=>(obtain⟨s,h3,h4⟩:=h2;exact⟨_,h3,hk s h4⟩)|_=>exact h2
theorem aY{σ:Type}{o:Option (Bool×List Nat)}{rep:σ→an}{s8:σ→Option ρ}(s:σ)(hF:s8 s=some r)(hc:eH o S=some (rep s)):Ll σ o rep s8 r Q (.normal,S):=⟨s,hc,hF⟩
theorem gI{σ:Type}{o:Option (Bool×List Nat)}{rep:σ→an}{s8:σ→Option ρ}(h:Q (.ret,S)):Ll σ o rep s8 r Q (.ret,S):=h
section
variable{σ:Type}{rep:σ→an}{s8:σ→Option ρ}
end
/-! ### Regions -/
section
variable{K:List jG→an→Prop}{ops:Array Oper}{i:Nat}{ks:List jG}
def yt(C:aU)(f:FuncId)(call:hM)(id:Nat)(ops:Array Oper)(draw:Bool)(S:an)(Q:Exit×an→Prop):Prop:=∃S',(qV C f call id ops draw S).bind (qT C f id)=some S'∧Q (.normal,S')
def A7(C:aU)(f:FuncId)(id:Nat)(P:an→Prop)(ks:List jG)(S:an):Prop:=qb (C.iJ f id) ks=true∧P S
def Ek(l:List Nat)(K:an→Prop)(S:an):Prop:=∃S',mu l S=some S'∧K S'
def qI(p:Nat)(lo zX:List Nat)(K:an→Prop)(S:an):Prop:=∃S',n8 p lo S=some S'∧Ek zX K S'
theorem w0{ops:Array Oper}{Fb:Bool}(h:yt C f call id ops Fb S Q)(ha:C.oJ f id=[]:=by exact rfl):W C f call (.region id ops Fb) S Q:=by obtain⟨S',h1,h2⟩:=h;exact⟨_,by simp[c6,ha,mu,h1],h2⟩
theorem e9{ops:Array Oper}{Fb:Bool}(h:yt C f call id ops Fb S fun x=>W C f call b x.2 Q)(ha:C.oJ f id=[])(hk2:rN C f b=none):W C f call (.seq (.region id ops Fb) b) S Q:=aE (w0 (by obtain⟨S',h1,h2⟩:=h;exact⟨S',h1,aF h2 hk2⟩) ha)
theorem RL(h:eM C f call ⟨l⟩ 0 l [] S fun _ S'=>Q (.normal,S'))(hk:C.j5 f id=none:=by exact rfl)(hz:C.k7 f id=[]:=by exact rfl)(ho:C.ko f id=[]:=by exact rfl):yt C f call id ⟨l⟩ false S Q:=by obtain⟨x,h1,h2⟩:=h;exact⟨_,by simp[qV,h1,hk,eH,qT,hz,ho,mu,n8],h2⟩
theorem RN(h:eM C f call ⟨l⟩ 0 l [] S (A7 C f id fun S'=>Q (.normal,S')))(hk:C.j5 f id=none:=by exact rfl)(hz:C.k7 f id=[]:=by exact rfl)(ho:C.ko f id=[]:=by exact rfl):yt C f call id ⟨l⟩ true S Q:=by obtain⟨x,h1,h2,h3⟩:=h;simp only[List.nil_append]at h2;exact⟨_,by simp[qV,h1,h2,hk,eH,qT,hz,ho,mu,n8],h3⟩
theorem RP(h:eM C f call ⟨l⟩ 0 l [] S fun _ S'=>qI (1000+id) (C.ko f id) (C.k7 f id) (fun ei=>Q (.normal,ei)) S')(hk:C.j5 f id=none:=by exact rfl):yt C f call id ⟨l⟩ false S Q:=by obtain⟨x,h1,cg,h0,ei,h2,h3⟩:=h;exact⟨_,by simp[qV,h1,hk,eH,qT,h0,h2],h3⟩
theorem adk(h:eM C f call ⟨l⟩ 0 l [] S (A7 C f id fun S'=>qI (1000+id) (C.ko f id) (C.k7 f id) (fun ei=>Q (.normal,ei)) S'))(hk:C.j5 f id=none:=by exact rfl):yt C f call id ⟨l⟩ true S Q:=by obtain⟨x,h1,h4,cg,h0,ei,h2,h3⟩:=h;simp only[List.nil_append]at h4;exact⟨_,by simp[qV,h1,h4,hk,eH,qT,h0,h2],h3⟩
theorem rg(h:eM C f call ⟨l⟩ 0 l [] S fun _ S'=>Q (.normal,S'))(hk:C.j5 f id=none:=by exact rfl)(hz:C.k7 f id=[]:=by exact rfl)(ho:C.ko f id=[]:=by exact rfl)(ha:C.oJ f id=[]:=by exact rfl):W C f call (.region id ⟨l⟩ false) S Q:=w0 (RL h hk hz ho) ha
theorem qt(h:eM C f call ⟨l⟩ 0 l [] S (A7 C f id fun S'=>Q (.normal,S')))(hk:C.j5 f id=none:=by exact rfl)(hz:C.k7 f id=[]:=by exact rfl)(ho:C.ko f id=[]:=by exact rfl)(ha:C.oJ f id=[]:=by exact rfl):W C f call (.region id ⟨l⟩ true) S Q:=w0 (RN h hk hz ho) ha
theorem af(h:eM C f call ⟨l⟩ 0 l [] S fun _ S'=>W C f call b S' Q)(hk:C.j5 f id=none:=by exact rfl)(hz:C.k7 f id=[]:=by exact rfl)(ho:C.ko f id=[]:=by exact rfl)(ha:C.oJ f id=[]:=by exact rfl)(hk2:rN C f b=none:=by exact rfl):W C f call (.seq (.region id ⟨l⟩ false) b) S Q:=e9 (RL h hk hz ho) ha hk2
theorem cw(h:eM C f call ⟨l⟩ 0 l [] S (A7 C f id fun S'=>W C f call b S' Q))(hk:C.j5 f id=none:=by exact rfl)(hz:C.k7 f id=[]:=by exact rfl)(ho:C.ko f id=[]:=by exact rfl)(ha:C.oJ f id=[]:=by exact rfl)(hk2:rN C f b=none:=by exact rfl):W C f call (.seq (.region id ⟨l⟩ true) b) S Q:=e9 (RN h hk hz ho) ha hk2
theorem O2(h:eM C f call ⟨l⟩ 0 l [] S fun _ S'=>qI (1000+id) (C.ko f id) (C.k7 f id) (fun ei=>Q (.normal,ei)) S')(hk:C.j5 f id=none:=by exact rfl)(ha:C.oJ f id=[]:=by exact rfl):W C f call (.region id ⟨l⟩ false) S Q:=w0 (RP h hk) ha
theorem kz(h:eM C f call ⟨l⟩ 0 l [] S fun _ S'=>qI (1000+id) (C.ko f id) (C.k7 f id) (fun ei=>W C f call b ei Q) S')(hk:C.j5 f id=none:=by exact rfl)(ha:C.oJ f id=[]:=by exact rfl)(hk2:rN C f b=none:=by exact rfl):W C f call (.seq (.region id ⟨l⟩ false) b) S Q:=e9 (RP h hk) ha hk2
theorem kA(h:eM C f call ⟨l⟩ 0 l [] S (A7 C f id fun S'=>qI (1000+id) (C.ko f id) (C.k7 f id) (fun ei=>W C f call b ei Q) S'))(hk:C.j5 f id=none:=by exact rfl)(ha:C.oJ f id=[]:=by exact rfl)(hk2:rN C f b=none:=by exact rfl):W C f call (.seq (.region id ⟨l⟩ true) b) S Q:=e9 (adk h hk) ha hk2
theorem dD{p:Nat}{K:an→Prop}{lo zX:List Nat}(k:Ek zX K S)(hl:lo=[]:=by exact rfl):qI p lo zX K S:=by subst hl;exact⟨_,rfl,k⟩
theorem dU{p:Nat}{K:an→Prop}{S':an}{lo zX:List Nat}(s:Nat)(sl:List Nat)(he:sO p S s=some S')(k:qI p sl zX K S')(hl:lo=s::sl:=by exact rfl):qI p lo zX K S:=by subst hl;obtain⟨ei,h1,h2⟩:=k;exact⟨ei,by simp only[n8,he,Option.bind_some];exact h1,h2⟩
theorem akJ{p s row off:Nat}{id:Id}{r r':List aa}{x:Id×Option Rows}{wr:List (Id×Option Rows)}(hs:t s= .mp id row off)(hid:h id=some (some [r]))(hu:bZ [p,s] 0 r=(r',x::wr))(NI:Nat.blt s n=true)(hf:fresh h (x::wr)=true):sO p ⟨n,t,h⟩ s=some ⟨n,t,bD h ((id,some [r'])::x::wr)⟩:=by have hs':s<n:=of_decide_eq_true (by simp[Nat.blt]at NI⊢;omega);simp only[sO,hs,hid,hu,List.isEmpty_cons,Bool.false_eq_true,if_false];rw[if_pos ⟨hs',hf⟩]
theorem dA{K:an→Prop}{l:List Nat}(k:K S)(hl:l=[]:=by exact rfl):Ek l K S:=by subst hl;exact⟨_,rfl,k⟩
theorem Mv{s:Nat}{id:Id}{cells:List aa}(hs:t s= .mp id 0 0:=by exact rfl)(hid:h id=some (some [cells]):=by exact rfl)(hi:eJ cells=true:=by exact rfl):tB ⟨n,t,h⟩ s=some ⟨n,aC t s (.ax cells),aC h id (some none)⟩:=by simp only[tB,hs,hid,hi,if_true]
theorem Mw{K:an→Prop}{S':an}{l:List Nat}(s:Nat)(sl:List Nat)(he:tB S s=some S')(k:Ek sl K S')(hl:l=s::sl:=by exact rfl):Ek l K S:=by subst hl;obtain⟨ei,h1,h2⟩:=k;exact⟨ei,by simp only[mu,he,Option.bind_some];exact h1,h2⟩
theorem nl(h:K ks S):eM C f call ops i [] ks S K:=⟨_,rfl,by simpa using h⟩
def qo(ks:List jG):Bool:=ks.all fun k=>k.2.2.isEmpty
theorem sB(iJ:List (Nat×Nat)):∀ks:List jG,qo ks=true→qb iJ ks=true|[],_=>rfl|x::l,hk=>by simp only[qo,List.all_cons,Bool.and_eq_true]at hk;have h1:=sB iJ l hk.2;simp only[qb,h1,Bool.and_true,List.all_eq_true,Bool.or_eq_true];intro y hy;right;have h2:=List.all_eq_true.1 hk.2 y hy;simp only[List.isEmpty_iff]at hk h2;simp[vh,hk.1,h2]
theorem amu{a b:List jG}(h:qo a=true)(k:qo b=true):qo (a++b)=true:=by simp only[qo,List.all_append,Bool.and_eq_true]at*;exact⟨h,k⟩
theorem hG{iJ:List (Nat×Nat)}{ks:List jG}(h:qo ks=true:=by repeat'(first|apply amu|assumption|exact rfl)):qb iJ ks=true:=sB iJ ks h
theorem CF(a b:List jG):qo (a++b)=(qo a&&qo b):=by simp[qo]
theorem bJ{P:an→Prop}(h:P S)(hf:qb (C.iJ f id) ks=true:=by first|exact rfl|exact sB _ _ rfl|(apply sB;simp[CF, *];done)|(apply sB;simp only[CF,Bool.and_eq_true];(repeat' constructor)<;>first|assumption|rfl)):eM C f call ops i [] ks S (A7 C f id P):=⟨_,rfl,by simpa using hf,h⟩
def yh(σ:Type)(C:aU)(f:FuncId)(id:Nat)(draw:Bool)(rep:σ→an)(x:σ)(ks:List jG)(S:an):Prop:=(draw=true→qb (C.iJ f id) ks=true)∧qI (1000+id) (C.ko f id) (C.k7 f id) (fun ei=>eH (C.j5 f id) ei=some (rep x)) S
theorem RM{σ:Type}{draw:Bool}{A:Option σ}{rU:σ→Option ρ}(rep:σ→an)(hF:A.bind rU=some r)(k1:∀x,A=some x→eM C f call ⟨l⟩ 0 l [] S (yh σ C f id draw rep x))(k2:∀x,rU x=some r→Q (.normal,rep x)):yt C f call id ⟨l⟩ draw S Q:=by obtain⟨x,h1,h2⟩:=IV hF;obtain⟨y,h3,h4,cg,h5,ei,h6,h7⟩:=k1 x h1;simp only[List.nil_append]at h4;refine⟨rep x, ?_,k2 x h2⟩;simp only[qV,h3,Option.bind_some];cases draw with|false=>(simp[qT,h5,h6,h7])|true=>simp[h4 rfl,qT,h5,h6,h7]
theorem DA{σ:Type}{draw:Bool}{A:Option σ}{rU:σ→Option ρ}(rep:σ→an)(hF:A.bind rU=some r)(k1:∀x,A=some x→eM C f call ⟨l⟩ 0 l [] S (yh σ C f id draw rep x))(k2:∀x,rU x=some r→Q (.normal,rep x))(ha:C.oJ f id=[]:=by exact rfl):W C f call (.region id ⟨l⟩ draw) S Q:=w0 (RM rep hF k1 k2) ha
theorem eA{σ:Type}{draw:Bool}{A:Option σ}{rU:σ→Option ρ}(rep:σ→an)(hF:A.bind rU=some r)(k1:∀x,A=some x→eM C f call ⟨l⟩ 0 l [] S (yh σ C f id draw rep x))(k2:∀x,rU x=some r→W C f call b (rep x) Q)(ha:C.oJ f id=[]:=by exact rfl)(hk2:rN C f b=none:=by exact rfl):W C f call (.seq (.region id ⟨l⟩ draw) b) S Q:=e9 (RM rep hF k1 k2) ha hk2
theorem ajv{σ:Type}{rep:σ→an}{x:σ}(h:qI (1000+id) (C.ko f id) (C.k7 f id) (fun ei=>eH (C.j5 f id) ei=some (rep x)) S):eM C f call ops i [] ks S (yh σ C f id false rep x):=⟨_,rfl,And.intro (fun e=>Bool.noConfusion e) h⟩
theorem Oq{σ:Type}{rep:σ→an}{x:σ}(h:qI (1000+id) (C.ko f id) (C.k7 f id) (fun ei=>eH (C.j5 f id) ei=some (rep x)) S)(hf:qb (C.iJ f id) ks=true:=by first|exact rfl|exact sB _ _ rfl|(apply sB;simp[CF, *];done)|(apply sB;simp only[CF,Bool.and_eq_true];(repeat' constructor)<;>first|assumption|rfl)):eM C f call ops i [] ks S (yh σ C f id true rep x):=⟨_,rfl,And.intro (fun _=>by simpa using hf) h⟩
theorem cC{σ:Type}{rep:σ→an}{x:σ}(hc:eH (C.j5 f id) S=some (rep x))(hz:C.k7 f id=[]:=by exact rfl)(ho:C.ko f id=[]:=by exact rfl):eM C f call ops i [] ks S (yh σ C f id false rep x):=ajv (by rw[hz,ho];exact⟨_,rfl,_,rfl,hc⟩)
theorem eW{σ:Type}{rep:σ→an}{x:σ}(hc:eH (C.j5 f id) S=some (rep x))(hf:qb (C.iJ f id) ks=true:=by first|exact rfl|exact sB _ _ rfl|(apply sB;simp[CF, *];done)|(apply sB;simp only[CF,Bool.and_eq_true];(repeat' constructor)<;>first|assumption|rfl))(hz:C.k7 f id=[]:=by exact rfl)(ho:C.ko f id=[]:=by exact rfl):eM C f call ops i [] ks S (yh σ C f id true rep x):=Oq (by rw[hz,ho];exact⟨_,rfl,_,rfl,hc⟩) hf
variable{d:Nat}{ty:TypeId}{pos:String}{bn:Array Edge}{bP:Option (Nat×Bool)}{op:Op}{v:aa}{g:Bool}
theorem ahf(i:Nat)(e:bE)(l:List jG):hkey i e l=hkey i e []++l:=by unfold hkey;split<;>simp
theorem Av{o:Oper}{e:bE}(he:wO C f call S ops o=some e)(hs:(e.ek.all fun x=>decide (x.1<S.n))=true)(k:eM C f call ops (i+1) l (ks++hkey i e []) (S.app e) K):eM C f call ops i (o::l) ks S K:=by obtain⟨x,h1,h2⟩:=k;refine⟨(x.1,hkey i e x.2), ?_, ?_⟩;·{simp only[pZ,he,Option.bind_some];rw[if_pos hs,h1];rfl};·rw[ahf];simpa using h2
theorem m4{d n:Nat}(h:Nat.blt d n=true):decide (d<n)=true:=by simp[Nat.blt]at h⊢;omega
theorem pp(he:bN C f call ⟨n,t,h⟩ true ⟨some d,op,ty,pos,bn,none⟩=some ⟨[(d,v)],[],[]⟩)(k:eM C f call ops (i+1) l ks ⟨n,aC t d v,h⟩ K)(hs:Nat.blt d n=true:=by exact rfl):eM C f call ops i (⟨some d,op,ty,pos,bn,none⟩::l) ks ⟨n,t,h⟩ K:=Av (e:=⟨[(d,v)],[],[]⟩) he (by simpa using m4 hs) (by simpa[hkey,an.app]using k)
theorem rr{y:Id}{rd:List Id}(he:bN C f call ⟨n,t,h⟩ true ⟨some d,op,ty,pos,bn,none⟩=some ⟨[(d,v)],y::rd,[]⟩)(k:eM C f call ops (i+1) l (ks++[(i,y::rd,[])]) ⟨n,aC t d v,h⟩ K)(hs:Nat.blt d n=true:=by exact rfl):eM C f call ops i (⟨some d,op,ty,pos,bn,none⟩::l) ks ⟨n,t,h⟩ K:=Av (e:=⟨[(d,v)],y::rd,[]⟩) he (by simpa using m4 hs) (by simpa[hkey,an.app]using k)
theorem ww{xG:Option Nat}{ek:List (Nat×aa)}{rd:List Id}{x:Id×Option Rows}{wr:List (Id×Option Rows)}(he:bN C f call ⟨n,t,h⟩ true ⟨xG,op,ty,pos,bn,none⟩=some ⟨ek,rd,x::wr⟩)(k:eM C f call ops (i+1) l (ks++[(i,rd,(x::wr).map (·.1))]) ⟨n,dF t ek,bD h (x::wr)⟩ K)(hs:(ek.all fun x=>Nat.blt x.1 n)=true:=by exact rfl):eM C f call ops i (⟨xG,op,ty,pos,bn,none⟩::l) ks ⟨n,t,h⟩ K:=Av (e:=⟨ek,rd,x::wr⟩) he (by rw[List.all_eq_true]at hs⊢;exact fun y hy=>m4 (hs y hy)) (by simpa[hkey,an.app]using k)
theorem aj{j:Nat}{wt:Bool}{l0:List Oper}(hg:vn wt ⟨n,t,h⟩ (qU l0 j)=some g)(he:bN C f call ⟨n,t,h⟩ g ⟨some d,op,ty,pos,bn,some (j,wt)⟩=some ⟨[(d,v)],[],[]⟩)(k:eM C f call ⟨l0⟩ (i+1) l ks ⟨n,aC t d (.dM g v),h⟩ K)(hs:Nat.blt d n=true:=by exact rfl):eM C f call ⟨l0⟩ i (⟨some d,op,ty,pos,bn,some (j,wt)⟩::l) ks ⟨n,t,h⟩ K:=Av (e:=⟨[(d, .dM g v)],[],[]⟩) (by rw[Jd,hg,I4,Jf,he];rfl) (by simpa using m4 hs) (by simpa[hkey,an.app]using k)
theorem Hv{j:Nat}{wt:Bool}{l0:List Oper}{y:Id}{rd:List Id}(hg:vn wt ⟨n,t,h⟩ (qU l0 j)=some g)(he:bN C f call ⟨n,t,h⟩ g ⟨some d,op,ty,pos,bn,some (j,wt)⟩=some ⟨[(d,v)],y::rd,[]⟩)(k:eM C f call ⟨l0⟩ (i+1) l (ks++[(i,y::rd,[])]) ⟨n,aC t d (.dM g v),h⟩ K)(hs:Nat.blt d n=true:=by exact rfl):eM C f call ⟨l0⟩ i (⟨some d,op,ty,pos,bn,some (j,wt)⟩::l) ks ⟨n,t,h⟩ K:=Av (e:=⟨[(d, .dM g v)],y::rd,[]⟩) (by rw[Jd,hg,I4,Jf,he];rfl) (by simpa using m4 hs) (by simpa[hkey,an.app]using k)
theorem pt{j:Nat}{wt:Bool}{l0:List Oper}(hg:vn wt ⟨n,t,h⟩ (qU l0 j)=some true)(he:bN C f call ⟨n,t,h⟩ true ⟨some d,op,ty,pos,bn,some (j,wt)⟩=some ⟨[(d,v)],[],[]⟩)(k:eM C f call ⟨l0⟩ (i+1) l ks ⟨n,aC t d (.dM true v),h⟩ K)(hs:Nat.blt d n=true:=by exact rfl):eM C f call ⟨l0⟩ i (⟨some d,op,ty,pos,bn,some (j,wt)⟩::l) ks ⟨n,t,h⟩ K:=aj hg he k hs
theorem fE{j:Nat}{wt:Bool}{l0:List Oper}{y:Id}{rd:List Id}(hg:vn wt ⟨n,t,h⟩ (qU l0 j)=some true)(he:bN C f call ⟨n,t,h⟩ true ⟨some d,op,ty,pos,bn,some (j,wt)⟩=some ⟨[(d,v)],y::rd,[]⟩)(k:eM C f call ⟨l0⟩ (i+1) l (ks++[(i,y::rd,[])]) ⟨n,aC t d (.dM true v),h⟩ K)(hs:Nat.blt d n=true:=by exact rfl):eM C f call ⟨l0⟩ i (⟨some d,op,ty,pos,bn,some (j,wt)⟩::l) ks ⟨n,t,h⟩ K:=Hv hg he k hs
theorem aob{j:Nat}{wt:Bool}{l0:List Oper}{ek:List (Nat×aa)}{rd:List Id}{x:Id×Option Rows}{wr:List (Id×Option Rows)}{xG:Option Nat}(hg:vn wt ⟨n,t,h⟩ (qU l0 j)=some true)(he:bN C f call ⟨n,t,h⟩ true ⟨xG,op,ty,pos,bn,some (j,wt)⟩=some ⟨ek,rd,x::wr⟩)(k:eM C f call ⟨l0⟩ (i+1) l (ks++[(i,rd,(x::wr).map (·.1))]) ⟨n,dF t ek,bD h (x::wr)⟩ K)(hs:(ek.all fun x=>Nat.blt x.1 n)=true:=by exact rfl):eM C f call ⟨l0⟩ i (⟨xG,op,ty,pos,bn,some (j,wt)⟩::l) ks ⟨n,t,h⟩ K:=Av (e:=⟨ek,rd,x::wr⟩) (by rw[Jd,hg,I4,Jf,he];rfl) (by rw[List.all_eq_true]at hs⊢;exact fun y hy=>m4 (hs y hy)) (by simpa[hkey,an.app]using k)
theorem gf{wt:Bool}{d:Nat}{u:aa}{xG:Option Nat}(hd:xG=some d:=by exact rfl)(h:S.t d= .dM false u:=by exact rfl):vn wt S xG=some false:=by subst hd;rw[S4,h];cases u with|val v=>(cases v<;>simp[BL])|_=>rfl
theorem no{d:Nat}{j:Nat}{wt:Bool}{l0:List Oper}(k:∀u ks',qo ks'=true→eM C f call ⟨l0⟩ (i+1) l (ks++ks') ⟨n,aC t d (.dM false u),h⟩ K)(hg:vn wt ⟨n,t,h⟩ (qU l0 j)=some false:=by first|exact gf|exact rfl)(hs:Nat.blt d n=true:=by exact rfl):eM C f call ⟨l0⟩ i (⟨some d,op,ty,pos,bn,some (j,wt)⟩::l) ks ⟨n,t,h⟩ K:=by have hj:∀(v:aa)(rd:List Id),wO C f call ⟨n,t,h⟩ ⟨l0⟩ ⟨some d,op,ty,pos,bn,some (j,wt)⟩=some ⟨[(d, .dM false v)],rd,[]⟩→eM C f call ⟨l0⟩ i (⟨some d,op,ty,pos,bn,some (j,wt)⟩::l) ks ⟨n,t,h⟩ K:=fun v rd he=>Av he (by simpa using m4 hs) (by have:=k v (hkey i ⟨[(d, .dM false v)],rd,[]⟩ []) (by unfold hkey qo;split<;>simp);simpa[an.app,dF]using this);rw[Jd,hg,I4,Jf]at hj;cases he:bN C f call ⟨n,t,h⟩ false ⟨some d,op,ty,pos,bn,some (j,wt)⟩with|none=>(exact hj .bH [] (by rw[he];rfl))|some e=>obtain⟨ek,rd,wr⟩:=e;cases wr with|cons x wr=>(exact hj .bH [] (by rw[he];rfl))|nil=>rcases Pf he with⟨v,hv⟩|⟨hv,_⟩;·{simp only[put]at hv;subst hv;exact hj v rd (by rw[he];rfl)};·exact absurd rfl hv
theorem dr{A B:Option ρ}{d:Nat}{p:Bool}(hF:(if p=true then A else B)=some r)(h1:A=some r→eM C f call ops i l ks ⟨n,aC t d (.val (.bool true)),h⟩ K)(h2:B=some r→eM C f call ops i l ks ⟨n,aC t d (.val (.bool false)),h⟩ K)(hd:t d= .val (.bool p):=by exact rfl):eM C f call ops i l ks ⟨n,t,h⟩ K:=by have e:∀q,t d= .val (.bool q)→aC t d (.val (.bool q))=t:=fun q hq=>by{funext j;unfold aC;split;·{rename_i hj;subst hj;exact hq.symm};·rfl};cases p with|true=>(have:=h1 (by simpa using hF);rwa[e _ hd]at this)|false=>have:=h2 (by simpa using hF);rwa[e _ hd]at this
theorem uD{A B:Option ρ}{d:Nat}{p:Bool}(hF:(if p=true then A else B)=some r)(h1:A=some r→eM C f call ops i l ks ⟨n,aC t d (.dM true (.val (.bool true))),h⟩ K)(h2:B=some r→eM C f call ops i l ks ⟨n,aC t d (.dM true (.val (.bool false))),h⟩ K)(hd:t d= .dM true (.val (.bool p)):=by exact rfl):eM C f call ops i l ks ⟨n,t,h⟩ K:=by have e:∀q,t d= .dM true (.val (.bool q))→aC t d (.dM true (.val (.bool q)))=t:=fun q hq=>by{funext j;unfold aC;split;·{rename_i hj;subst hj;exact hq.symm};·rfl};cases p with|true=>(have:=h1 (by simpa using hF);rwa[e _ hd]at this)|false=>have:=h2 (by simpa using hF);rwa[e _ hd]at this
end
end
end Go.Ab
