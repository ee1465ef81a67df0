import Derived.Test.YtbikcahlonfnmaaGreatAbFn
import Derived.Test.YtbikcahlonfnmaaGreatAbSimp
namespace Go.Ab
open Go
abbrev gA:=FuncId→List aa→Option (aa×List aa)
abbrev aN(n:Int):Int:=IntKind.i64.wrap n
def idx{α:Type}(l:List α)(i:Int):Option α:=if 0≤i then l[i.toNat]? else none
theorem Fe{α β:Type}{c:α→β}{l:List α}{i:Int}{x:α}(h:idx l i=some x):idx (l.map c) i=some (c x):=by unfold idx at*;split at h;·{rw[if_pos ‹_›];simp[h]};·cases h
theorem cH{α:Type}{l:List α}{i:Int}{x:α}(h:idx l i=some x):l[i.toNat]? =some x:=by unfold idx at h;split at h;·{exact h};·cases h
theorem IS{α:Type}{l:List α}{i:Int}{x:α}(h:idx l i=some x):0≤i∧i<(l.length:Nat):=by unfold idx at h;split at h;·{rename_i hp;refine⟨hp, ?_⟩;rcases Nat.lt_or_ge i.toNat l.length with h'|h';·{omega};·rw[List.getElem?_eq_none h']at h;cases h};·cases h
theorem HB{α β:Type}{o:Option α}{k:α→Option β}{r:β}(h:o.bind k=some r):∃x,o=some x∧k x=some r:=Option.bind_eq_some_iff.1 h
theorem bb{α β:Type}{o:Option α}{k:α→Option β}{r:β}{G:Prop}(h:o.bind k=some r)(g:∀x,o=some x→k x=some r→G):G:=by obtain⟨x,h1,h2⟩:=HB h;exact g x h1 h2
def W(C:aO)(f:FuncId)(call:gA)(c:Code)(S:ak)(Q:Exit×ak→Prop):Prop:=∃x,cM C f call kk c S=some x∧Q x
theorem ar{P:Prop}(h:P:=by exact rfl):P:=h
def eG(C:aO)(f:FuncId)(call:gA)(ops:Array Oper)(i:Nat)(l:List Oper)(ks:List iG)(S:ak)(Q:List iG→ak→Prop):Prop:=∃x,oA C f call ops i l S=some x∧Q (ks++x.2) x.1
/-! ### Loops -/
inductive cr(σ b5:Type)where|next(s:σ)|out(x:b5)
inductive b7(b5 ρ:Type)where|cB(x:b5)|ret(r:ρ)
def LoopN{σ b5:Type}(step:σ→Option (cr σ b5)):Nat→σ→Option b5|0,_=>none|m+1,s=>(step s).bind fun y=>match y with| .next s'=>LoopN step m s'| .out x=>some x
open Classical in noncomputable def Loop{σ b5:Type}(step:σ→Option (cr σ b5))(s:σ):Option b5:=if h:∃x m,LoopN step m s=some x then some (Classical.choose h)else none
theorem Ka{σ b5:Type}{step:σ→Option (cr σ b5)}:∀{m:Nat}{s:σ}{x:b5}(k:Nat),LoopN step m s=some x→LoopN step (m+k) s=some x|0,_,_,_,h=>by{simp[LoopN]at h}|m+1,s,x,k,h=>by rw[Nat.add_right_comm];simp only[LoopN,Option.bind_eq_some_iff]at h⊢;obtain⟨y,h1,h2⟩:=h;refine⟨y,h1, ?_⟩;cases y with|next s'=>(exact Ka k h2)|out x=>exact h2
theorem Wr{σ b5:Type}{step:σ→Option (cr σ b5)}{m m':Nat}{s:σ}{x y:b5}(h1:LoopN step m s=some x)(h2:LoopN step m' s=some y):x=y:=by have e1:=Ka m' h1;have e2:=Ka m h2;rw[Nat.add_comm]at e2;rw[e1]at e2;exact Option.some.inj e2
theorem Kc{σ b5:Type}{step:σ→Option (cr σ b5)}{m:Nat}{s:σ}{x:b5}(h:LoopN step m s=some x):Loop step s=some x:=by unfold Loop;have hx:∃x m,LoopN step m s=some x:=⟨x,m,h⟩;rw[dif_pos hx];obtain⟨m',h'⟩:=Classical.choose_spec hx;rw[Wr h' h]
theorem Kb{σ b5:Type}{step:σ→Option (cr σ b5)}{s:σ}{x:b5}(h:Loop step s=some x):∃m,LoopN step m s=some x:=by unfold Loop at h;split at h;·{rename_i hx;simp only[Option.some.injEq]at h;subst h;exact Classical.choose_spec hx};·cases h
theorem dZ{σ b5:Type}(step:σ→Option (cr σ b5))(s:σ):Loop step s=(step s).bind fun y=>match y with| .next s'=>Loop step s'| .out x=>some x:=by apply Option.ext;intro x;constructor;·{intro h;obtain⟨m,h⟩:=Kb h;cases m with|zero=>(simp[LoopN]at h)|succ m=>simp only[LoopN,Option.bind_eq_some_iff]at h⊢;obtain⟨y,h1,h2⟩:=h;refine⟨y,h1, ?_⟩;cases y with|next s'=>(exact Kc h2)|out x=>exact h2};·intro h;simp only[Option.bind_eq_some_iff]at h;obtain⟨y,h1,h2⟩:=h;cases y with|next s'=>(obtain⟨m,h3⟩:=Kb h2;exact Kc (m:=m+1) (by simp only[LoopN,h1,Option.bind_some,h3]))|out x=>exact Kc (m:=1) (by simp only[LoopN,h1,Option.bind_some];exact h2)
section
variable{C:aO}{f:FuncId}{call:gA}{S:ak}{n:Nat}{t:Nat→aa}{h:Id→Option (Option Rows)}
variable{Q:Exit×ak→Prop}{a b c:Code}{ρ:Type}{r:ρ}{l:List Oper}{id k:Nat}
/-! ### Code -/
def He(C:aO)(f:FuncId)(call:gA)(b:Code)(Q:Exit×ak→Prop)(x:Exit×ak):Prop:=match x.1 with| .normal=>∃S',ej (o6 C f b) x.2=some S'∧W C f call b S' Q|_=>Q x
theorem aE(h:W C f call a S (He C f call b Q)):W C f call (.seq a b) S Q:=by obtain⟨⟨e,s⟩,h1,h2⟩:=h;cases e with|normal=>(obtain⟨S',h5,y,h3,h4⟩:=h2;exact⟨y,by simp only[cM,h1,Option.bind_some,h5,h3],h4⟩)|_=>exact⟨_,by simp only[cM,h1,Option.bind_some],h2⟩
theorem aF(h:W C f call b S Q)(hk:o6 C f b=none:=by exact rfl):He C f call b Q (.normal,S):=⟨S,by rw[hk];rfl,h⟩
theorem aD(h:Q (.ret,S)):He C f call b Q (.ret,S):=h
theorem eF(h:Q (.exit k,S)):He C f call b Q (.exit k,S):=h
theorem cd{x:Operand}{p:Bool}{A B:Option ρ}(hF:(if p=true then A else B)=some r)(h1:A=some r→W C f call a S Q)(h2:B=some r→W C f call b S Q)(hc:un true (S.get C x)= .val (.bool p):=by exact rfl):W C f call (.cond x a b) S Q:=by cases p with|true=>(obtain⟨y,h3,h4⟩:=h1 (by simpa using hF);exact⟨y,by simp only[cM,hc];simpa using h3,h4⟩)|false=>obtain⟨y,h3,h4⟩:=h2 (by simpa using hF);exact⟨y,by simp only[cM,hc];simpa using h3,h4⟩
theorem aas{x:Operand}(h1:W C f call a S Q)(hc:un true (S.get C x)= .val (.bool true):=by exact rfl):W C f call (.cond x a b) S Q:=by obtain⟨y,h3,h4⟩:=h1;exact⟨y,by simp only[cM,hc];simpa using h3,h4⟩
theorem aar{x:Operand}(h1:W C f call b S Q)(hc:un true (S.get C x)= .val (.bool false):=by exact rfl):W C f call (.cond x a b) S Q:=by obtain⟨y,h3,h4⟩:=h1;exact⟨y,by simp only[cM,hc];simpa using h3,h4⟩
theorem az(h:Q (.normal,S)):W C f call .skip S Q:=⟨_,rfl,h⟩
theorem rt(h:Q (.ret,S)):W C f call .ret S Q:=⟨_,rfl,h⟩
theorem ex(h:Q (.exit k,S)):W C f call (.exit k) S Q:=⟨_,rfl,h⟩
def tc(C:aO)(f:FuncId)(k:Nat)(Q:Exit×ak→Prop)(x:Exit×ak):Prop:=match x.1 with| .normal=>∃S',ej (C.pN f k) x.2=some S'∧Q (.normal,S')| .exit j=>if j=k then∃S',ej (C.pN f k) x.2=some S'∧Q (.normal,S')else Q (.exit j,x.2)|_=>Q x
theorem cv(h:W C f call c S (tc C f k Q)):W C f call (.block k c) S Q:=by obtain⟨⟨e,s⟩,h1,h2⟩:=h;cases e with|normal=>(obtain⟨S',h3,h4⟩:=h2;exact⟨_,by simp only[cM,h1,Option.bind_some,h3,Option.map_some],h4⟩)|exit j=>(simp only[tc]at h2;split at h2;·{rename_i hj;obtain⟨S',h3,h4⟩:=h2;exact⟨_,by simp only[cM,h1,Option.bind_some,hj,if_true,h3,Option.map_some],h4⟩};·rename_i hj;exact⟨_,by simp only[cM,h1,Option.bind_some,hj,if_false],h2⟩)|_=>exact⟨_,by simp only[cM,h1,Option.bind_some],h2⟩
theorem bt(h:Q (.normal,S))(hk:C.pN f k=none:=by exact rfl):tc C f k Q (.normal,S):=⟨S,by rw[hk];rfl,h⟩
theorem aU(h:Q (.ret,S)):tc C f k Q (.ret,S):=h
theorem ajk(h:Q (.normal,S))(hk:C.pN f k=none:=by exact rfl):tc C f k Q (.exit k,S):=by simp only[tc,if_true];exact⟨S,by rw[hk];rfl,h⟩
/-! ### Places where the state is told anew -/
theorem UF{S':ak}(hc:ej (C.pN f k) S=some S')(h:Q (.normal,S')):tc C f k Q (.exit k,S):=by simp only[tc,if_true];exact⟨S',hc,h⟩
def Ke(σ:Type)(o:Option (Bool×List Nat))(rep:σ→ak)(rU:σ→Option ρ)(r:ρ)(Q:Exit×ak→Prop)(x:Exit×ak):Prop:=match x.1 with| .normal=>∃s,ej o x.2=some (rep s)∧rU s=some r|_=>Q x
theorem cV{σ:Type}(rep:σ→ak)(rU:σ→Option ρ)(ha:W C f call a S (Ke σ (o6 C f b) rep rU r Q))(hk:∀s,rU s=some r→W C f call b (rep s) Q):W C f call (.seq a b) S Q:=by refine aE ?_;obtain⟨⟨e,s⟩,h1,h2⟩:=ha;refine⟨_,h1, ?_⟩;cases e with|normal=>(obtain⟨s,h3,h4⟩:=h2;exact⟨_,h3,hk s h4⟩)|_=>exact h2
theorem aX{σ:Type}{o:Option (Bool×List Nat)}{rep:σ→ak}{rU:σ→Option ρ}(s:σ)(hF:rU s=some r)(hc:ej o S=some (rep s)):Ke σ o rep rU r Q (.normal,S):=⟨s,hc,hF⟩
theorem jt{σ:Type}{o:Option (Bool×List Nat)}{rep:σ→ak}{rU:σ→Option ρ}(h:Q (.ret,S)):Ke σ o rep rU r Q (.ret,S):=h
section
variable{σ:Type}{rep:σ→ak}{rU:σ→Option ρ}
end
/-! ### Regions -/
section
variable{K:List iG→ak→Prop}{ops:Array Oper}{i:Nat}{ks:List iG}
def tq(C:aO)(f:FuncId)(call:gA)(id:Nat)(ops:Array Oper)(draw:Bool)(S:ak)(Q:Exit×ak→Prop):Prop:=∃S',(pQ C f call id ops draw S).bind (pO C f id)=some S'∧Q (.normal,S')
def Ap(C:aO)(f:FuncId)(id:Nat)(P:ak→Prop)(ks:List iG)(S:ak):Prop:=oL (C.gW f id) ks=true∧P S
def xh(l:List Nat)(K:ak→Prop)(S:ak):Prop:=∃S',ld l S=some S'∧K S'
def qB(p:Nat)(lo y5:List Nat)(K:ak→Prop)(S:ak):Prop:=∃S',m8 p lo S=some S'∧xh y5 K S'
theorem w0{ops:Array Oper}{qN:Bool}(h:tq C f call id ops qN S Q)(ha:C.mN f id=[]:=by exact rfl):W C f call (.region id ops qN) S Q:=by obtain⟨S',h1,h2⟩:=h;exact⟨_,by simp[cM,ha,ld,h1],h2⟩
theorem alu{ops:Array Oper}{qN:Bool}(h:xh (C.mN f id) (fun gO=>tq C f call id ops qN gO Q) S):W C f call (.region id ops qN) S Q:=by obtain⟨gO,h0,S',h1,h2⟩:=h;exact⟨_,by simp[cM,h0,h1],h2⟩
theorem eW{ops:Array Oper}{qN:Bool}(h:tq C f call id ops qN S fun x=>W C f call b x.2 Q)(ha:C.mN f id=[])(hk2:o6 C f b=none):W C f call (.seq (.region id ops qN) b) S Q:=aE (w0 (by obtain⟨S',h1,h2⟩:=h;exact⟨S',h1,aF h2 hk2⟩) ha)
theorem ake{ops:Array Oper}{qN:Bool}(h:xh (C.mN f id) (fun gO=>tq C f call id ops qN gO fun x=>W C f call b x.2 Q) S)(hk2:o6 C f b=none:=by exact rfl):W C f call (.seq (.region id ops qN) b) S Q:=aE (alu (by obtain⟨gO,h0,S',h1,h2⟩:=h;exact⟨gO,h0,S',h1,aF h2 hk2⟩))
theorem Qg(h:eG C f call ⟨l⟩ 0 l [] S fun _ S'=>Q (.normal,S'))(hk:C.jH f id=none:=by exact rfl)(hz:C.kH f id=[]:=by exact rfl)(ho:C.j4 f id=[]:=by exact rfl):tq C f call id ⟨l⟩ false S Q:=by obtain⟨x,h1,h2⟩:=h;exact⟨_,by simp[pQ,h1,hk,ej,pO,hz,ho,ld,m8],h2⟩
theorem Qi(h:eG C f call ⟨l⟩ 0 l [] S (Ap C f id fun S'=>Q (.normal,S')))(hk:C.jH f id=none:=by exact rfl)(hz:C.kH f id=[]:=by exact rfl)(ho:C.j4 f id=[]:=by exact rfl):tq C f call id ⟨l⟩ true S Q:=by obtain⟨x,h1,h2,h3⟩:=h;simp only[List.nil_append]at h2;exact⟨_,by simp[pQ,h1,h2,hk,ej,pO,hz,ho,ld,m8],h3⟩
theorem Qk(h:eG C f call ⟨l⟩ 0 l [] S fun _ S'=>qB (1000+id) (C.j4 f id) (C.kH f id) (fun dP=>Q (.normal,dP)) S')(hk:C.jH f id=none:=by exact rfl):tq C f call id ⟨l⟩ false S Q:=by obtain⟨x,h1,bY,h0,dP,h2,h3⟩:=h;exact⟨_,by simp[pQ,h1,hk,ej,pO,h0,h2],h3⟩
theorem aa5(h:eG C f call ⟨l⟩ 0 l [] S (Ap C f id fun S'=>qB (1000+id) (C.j4 f id) (C.kH f id) (fun dP=>Q (.normal,dP)) S'))(hk:C.jH f id=none:=by exact rfl):tq C f call id ⟨l⟩ true S Q:=by obtain⟨x,h1,h4,bY,h0,dP,h2,h3⟩:=h;simp only[List.nil_append]at h4;exact⟨_,by simp[pQ,h1,h4,hk,ej,pO,h0,h2],h3⟩
theorem rg(h:eG C f call ⟨l⟩ 0 l [] S fun _ S'=>Q (.normal,S'))(hk:C.jH f id=none:=by exact rfl)(hz:C.kH f id=[]:=by exact rfl)(ho:C.j4 f id=[]:=by exact rfl)(ha:C.mN f id=[]:=by exact rfl):W C f call (.region id ⟨l⟩ false) S Q:=w0 (Qg h hk hz ho) ha
theorem rI(h:eG C f call ⟨l⟩ 0 l [] S (Ap C f id fun S'=>Q (.normal,S')))(hk:C.jH f id=none:=by exact rfl)(hz:C.kH f id=[]:=by exact rfl)(ho:C.j4 f id=[]:=by exact rfl)(ha:C.mN f id=[]:=by exact rfl):W C f call (.region id ⟨l⟩ true) S Q:=w0 (Qi h hk hz ho) ha
theorem af(h:eG C f call ⟨l⟩ 0 l [] S fun _ S'=>W C f call b S' Q)(hk:C.jH f id=none:=by exact rfl)(hz:C.kH f id=[]:=by exact rfl)(ho:C.j4 f id=[]:=by exact rfl)(ha:C.mN f id=[]:=by exact rfl)(hk2:o6 C f b=none:=by exact rfl):W C f call (.seq (.region id ⟨l⟩ false) b) S Q:=eW (Qg h hk hz ho) ha hk2
theorem dh(h:eG C f call ⟨l⟩ 0 l [] S (Ap C f id fun S'=>W C f call b S' Q))(hk:C.jH f id=none:=by exact rfl)(hz:C.kH f id=[]:=by exact rfl)(ho:C.j4 f id=[]:=by exact rfl)(ha:C.mN f id=[]:=by exact rfl)(hk2:o6 C f b=none:=by exact rfl):W C f call (.seq (.region id ⟨l⟩ true) b) S Q:=eW (Qi h hk hz ho) ha hk2
theorem CR(h:eG C f call ⟨l⟩ 0 l [] S fun _ S'=>qB (1000+id) (C.j4 f id) (C.kH f id) (fun dP=>W C f call b dP Q) S')(hk:C.jH f id=none:=by exact rfl)(ha:C.mN f id=[]:=by exact rfl)(hk2:o6 C f b=none:=by exact rfl):W C f call (.seq (.region id ⟨l⟩ false) b) S Q:=eW (Qk h hk) ha hk2
theorem JR(h:eG C f call ⟨l⟩ 0 l [] S (Ap C f id fun S'=>qB (1000+id) (C.j4 f id) (C.kH f id) (fun dP=>W C f call b dP Q) S'))(hk:C.jH f id=none:=by exact rfl)(ha:C.mN f id=[]:=by exact rfl)(hk2:o6 C f b=none:=by exact rfl):W C f call (.seq (.region id ⟨l⟩ true) b) S Q:=eW (aa5 h hk) ha hk2
theorem lG{p:Nat}{K:ak→Prop}{lo y5:List Nat}(k:xh y5 K S)(hl:lo=[]:=by exact rfl):qB p lo y5 K S:=by subst hl;exact⟨_,rfl,k⟩
theorem qh{p:Nat}{K:ak→Prop}{S':ak}{lo y5:List Nat}(s:Nat)(sl:List Nat)(he:uh p S s=some S')(k:qB p sl y5 K S')(hl:lo=s::sl:=by exact rfl):qB p lo y5 K S:=by subst hl;obtain⟨dP,h1,h2⟩:=k;exact⟨dP,by simp only[m8,he,Option.bind_some];exact h1,h2⟩
theorem aij{p s row off:Nat}{id:Id}{r r':List aa}{x:Id×Option Rows}{wr:List (Id×Option Rows)}(hs:t s= .mp id row off)(hid:h id=some (some [r]))(hu:bQ [p,s] 0 r=(r',x::wr))(MG:Nat.blt s n=true)(hf:fresh h (x::wr)=true):uh p ⟨n,t,h⟩ s=some ⟨n,t,bw h ((id,some [r'])::x::wr)⟩:=by have hs':s<n:=of_decide_eq_true (by simp[Nat.blt]at MG⊢;omega);simp only[uh,hs,hid,hu,List.isEmpty_cons,Bool.false_eq_true,if_false];rw[if_pos ⟨hs',hf⟩]
theorem kI{K:ak→Prop}{l:List Nat}(k:K S)(hl:l=[]:=by exact rfl):xh l K S:=by subst hl;exact⟨_,rfl,k⟩
theorem Lt{s:Nat}{id:Id}{cells:List aa}(hs:t s= .mp id 0 0:=by exact rfl)(hid:h id=some (some [cells]):=by exact rfl)(hi:ek cells=true:=by exact rfl):pS ⟨n,t,h⟩ s=some ⟨n,av t s (.aq cells),av h id (some none)⟩:=by simp only[pS,hs,hid,hi,if_true]
theorem Ii{K:ak→Prop}{S':ak}{l:List Nat}(s:Nat)(sl:List Nat)(he:pS S s=some S')(k:xh sl K S')(hl:l=s::sl:=by exact rfl):xh l K S:=by subst hl;obtain⟨dP,h1,h2⟩:=k;exact⟨dP,by simp only[ld,he,Option.bind_some];exact h1,h2⟩
theorem nl(h:K ks S):eG C f call ops i [] ks S K:=⟨_,rfl,by simpa using h⟩
def oY(ks:List iG):Bool:=ks.all fun k=>k.2.2.isEmpty
theorem q5(gW:List (Nat×Nat)):∀ks:List iG,oY ks=true→oL gW ks=true|[],_=>rfl|x::l,hk=>by simp only[oY,List.all_cons,Bool.and_eq_true]at hk;have h1:=q5 gW l hk.2;simp only[oL,h1,Bool.and_true,List.all_eq_true,Bool.or_eq_true];intro y hy;right;have h2:=List.all_eq_true.1 hk.2 y hy;simp only[List.isEmpty_iff]at hk h2;simp[tB,hk.1,h2]
theorem ajX{a b:List iG}(h:oY a=true)(k:oY b=true):oY (a++b)=true:=by simp only[oY,List.all_append,Bool.and_eq_true]at*;exact⟨h,k⟩
theorem ie{gW:List (Nat×Nat)}{ks:List iG}(h:oY ks=true:=by repeat'(first|apply ajX|assumption|exact rfl)):oL gW ks=true:=q5 gW ks h
theorem B3(a b:List iG):oY (a++b)=(oY a&&oY b):=by simp[oY]
theorem cA{P:ak→Prop}(h:P S)(hf:oL (C.gW f id) ks=true:=by first|exact rfl|exact q5 _ _ rfl|(apply q5;simp[B3, *];done)|(apply q5;simp only[B3,Bool.and_eq_true];(repeat' constructor)<;>first|assumption|rfl)):eG C f call ops i [] ks S (Ap C f id P):=⟨_,rfl,by simpa using hf,h⟩
def xj(σ:Type)(C:aO)(f:FuncId)(id:Nat)(draw:Bool)(rep:σ→ak)(x:σ)(ks:List iG)(S:ak):Prop:=(draw=true→oL (C.gW f id) ks=true)∧qB (1000+id) (C.j4 f id) (C.kH f id) (fun dP=>ej (C.jH f id) dP=some (rep x)) S
theorem Qh{σ:Type}{draw:Bool}{A:Option σ}{qA:σ→Option ρ}(rep:σ→ak)(hF:A.bind qA=some r)(k1:∀x,A=some x→eG C f call ⟨l⟩ 0 l [] S (xj σ C f id draw rep x))(k2:∀x,qA x=some r→Q (.normal,rep x)):tq C f call id ⟨l⟩ draw S Q:=by obtain⟨x,h1,h2⟩:=HB hF;obtain⟨y,h3,h4,bY,h5,dP,h6,h7⟩:=k1 x h1;simp only[List.nil_append]at h4;refine⟨rep x, ?_,k2 x h2⟩;simp only[pQ,h3,Option.bind_some];cases draw with|false=>(simp[pO,h5,h6,h7])|true=>simp[h4 rfl,pO,h5,h6,h7]
theorem CE{σ:Type}{draw:Bool}{A:Option σ}{qA:σ→Option ρ}(rep:σ→ak)(hF:A.bind qA=some r)(k1:∀x,A=some x→eG C f call ⟨l⟩ 0 l [] S (xj σ C f id draw rep x))(k2:∀x,qA x=some r→Q (.normal,rep x))(ha:C.mN f id=[]:=by exact rfl):W C f call (.region id ⟨l⟩ draw) S Q:=w0 (Qh rep hF k1 k2) ha
theorem ef{σ:Type}{draw:Bool}{A:Option σ}{qA:σ→Option ρ}(rep:σ→ak)(hF:A.bind qA=some r)(k1:∀x,A=some x→eG C f call ⟨l⟩ 0 l [] S (xj σ C f id draw rep x))(k2:∀x,qA x=some r→W C f call b (rep x) Q)(ha:C.mN f id=[]:=by exact rfl)(hk2:o6 C f b=none:=by exact rfl):W C f call (.seq (.region id ⟨l⟩ draw) b) S Q:=eW (Qh rep hF k1 k2) ha hk2
theorem agX{σ:Type}{rep:σ→ak}{x:σ}(h:qB (1000+id) (C.j4 f id) (C.kH f id) (fun dP=>ej (C.jH f id) dP=some (rep x)) S):eG C f call ops i [] ks S (xj σ C f id false rep x):=⟨_,rfl,And.intro (fun e=>Bool.noConfusion e) h⟩
theorem agY{σ:Type}{rep:σ→ak}{x:σ}(h:qB (1000+id) (C.j4 f id) (C.kH f id) (fun dP=>ej (C.jH f id) dP=some (rep x)) S)(hf:oL (C.gW f id) ks=true:=by first|exact rfl|exact q5 _ _ rfl|(apply q5;simp[B3, *];done)|(apply q5;simp only[B3,Bool.and_eq_true];(repeat' constructor)<;>first|assumption|rfl)):eG C f call ops i [] ks S (xj σ C f id true rep x):=⟨_,rfl,And.intro (fun _=>by simpa using hf) h⟩
theorem cj{σ:Type}{rep:σ→ak}{x:σ}(hc:ej (C.jH f id) S=some (rep x))(hz:C.kH f id=[]:=by exact rfl)(ho:C.j4 f id=[]:=by exact rfl):eG C f call ops i [] ks S (xj σ C f id false rep x):=agX (by rw[hz,ho];exact⟨_,rfl,_,rfl,hc⟩)
theorem e5{σ:Type}{rep:σ→ak}{x:σ}(hc:ej (C.jH f id) S=some (rep x))(hf:oL (C.gW f id) ks=true:=by first|exact rfl|exact q5 _ _ rfl|(apply q5;simp[B3, *];done)|(apply q5;simp only[B3,Bool.and_eq_true];(repeat' constructor)<;>first|assumption|rfl))(hz:C.kH f id=[]:=by exact rfl)(ho:C.j4 f id=[]:=by exact rfl):eG C f call ops i [] ks S (xj σ C f id true rep x):=agY (by rw[hz,ho];exact⟨_,rfl,_,rfl,hc⟩) hf
variable{d:Nat}{ty:TypeId}{pos:String}{bg:Array Edge}{bH:Option (Nat×Bool)}{op:Op}{v:aa}{g:Bool}
theorem aeI(i:Nat)(e:bx)(l:List iG):hkey i e l=hkey i e []++l:=by unfold hkey;split<;>simp
theorem CH{o:Oper}{e:bx}(he:vf C f call S ops o=some e)(hs:(e.ep.all fun x=>decide (x.1<S.n))=true)(k:eG C f call ops (i+1) l (ks++hkey i e []) (S.app e) K):eG C f call ops i (o::l) ks S K:=by obtain⟨x,h1,h2⟩:=k;refine⟨(x.1,hkey i e x.2), ?_, ?_⟩;·{simp only[oA,he,Option.bind_some];rw[if_pos hs,h1];rfl};·rw[aeI];simpa using h2
theorem mG{d n:Nat}(h:Nat.blt d n=true):decide (d<n)=true:=by simp[Nat.blt]at h⊢;omega
theorem pp(he:bF C f call ⟨n,t,h⟩ true ⟨some d,op,ty,pos,bg,none⟩=some ⟨[(d,v)],[],[]⟩)(k:eG C f call ops (i+1) l ks ⟨n,av t d v,h⟩ K)(hs:Nat.blt d n=true:=by exact rfl):eG C f call ops i (⟨some d,op,ty,pos,bg,none⟩::l) ks ⟨n,t,h⟩ K:=CH (e:=⟨[(d,v)],[],[]⟩) he (by simpa using mG hs) (by simpa[hkey,ak.app]using k)
theorem rr{y:Id}{rd:List Id}(he:bF C f call ⟨n,t,h⟩ true ⟨some d,op,ty,pos,bg,none⟩=some ⟨[(d,v)],y::rd,[]⟩)(k:eG C f call ops (i+1) l (ks++[(i,y::rd,[])]) ⟨n,av t d v,h⟩ K)(hs:Nat.blt d n=true:=by exact rfl):eG C f call ops i (⟨some d,op,ty,pos,bg,none⟩::l) ks ⟨n,t,h⟩ K:=CH (e:=⟨[(d,v)],y::rd,[]⟩) he (by simpa using mG hs) (by simpa[hkey,ak.app]using k)
theorem ww{FH:Option Nat}{ep:List (Nat×aa)}{rd:List Id}{x:Id×Option Rows}{wr:List (Id×Option Rows)}(he:bF C f call ⟨n,t,h⟩ true ⟨FH,op,ty,pos,bg,none⟩=some ⟨ep,rd,x::wr⟩)(k:eG C f call ops (i+1) l (ks++[(i,rd,(x::wr).map (·.1))]) ⟨n,di t ep,bw h (x::wr)⟩ K)(hs:(ep.all fun x=>Nat.blt x.1 n)=true:=by exact rfl):eG C f call ops i (⟨FH,op,ty,pos,bg,none⟩::l) ks ⟨n,t,h⟩ K:=CH (e:=⟨ep,rd,x::wr⟩) he (by rw[List.all_eq_true]at hs⊢;exact fun y hy=>mG (hs y hy)) (by simpa[hkey,ak.app]using k)
theorem ai{j:Nat}{wt:Bool}{l0:List Oper}(hg:vk wt ⟨n,t,h⟩ (qO l0 j)=some g)(he:bF C f call ⟨n,t,h⟩ g ⟨some d,op,ty,pos,bg,some (j,wt)⟩=some ⟨[(d,v)],[],[]⟩)(k:eG C f call ⟨l0⟩ (i+1) l ks ⟨n,av t d (.dz g v),h⟩ K)(hs:Nat.blt d n=true:=by exact rfl):eG C f call ⟨l0⟩ i (⟨some d,op,ty,pos,bg,some (j,wt)⟩::l) ks ⟨n,t,h⟩ K:=CH (e:=⟨[(d, .dz g v)],[],[]⟩) (by rw[La,hg,KW,Lb,he];rfl) (by simpa using mG hs) (by simpa[hkey,ak.app]using k)
theorem N0{j:Nat}{wt:Bool}{l0:List Oper}{y:Id}{rd:List Id}(hg:vk wt ⟨n,t,h⟩ (qO l0 j)=some g)(he:bF C f call ⟨n,t,h⟩ g ⟨some d,op,ty,pos,bg,some (j,wt)⟩=some ⟨[(d,v)],y::rd,[]⟩)(k:eG C f call ⟨l0⟩ (i+1) l (ks++[(i,y::rd,[])]) ⟨n,av t d (.dz g v),h⟩ K)(hs:Nat.blt d n=true:=by exact rfl):eG C f call ⟨l0⟩ i (⟨some d,op,ty,pos,bg,some (j,wt)⟩::l) ks ⟨n,t,h⟩ K:=CH (e:=⟨[(d, .dz g v)],y::rd,[]⟩) (by rw[La,hg,KW,Lb,he];rfl) (by simpa using mG hs) (by simpa[hkey,ak.app]using k)
theorem pt{j:Nat}{wt:Bool}{l0:List Oper}(hg:vk wt ⟨n,t,h⟩ (qO l0 j)=some true)(he:bF C f call ⟨n,t,h⟩ true ⟨some d,op,ty,pos,bg,some (j,wt)⟩=some ⟨[(d,v)],[],[]⟩)(k:eG C f call ⟨l0⟩ (i+1) l ks ⟨n,av t d (.dz true v),h⟩ K)(hs:Nat.blt d n=true:=by exact rfl):eG C f call ⟨l0⟩ i (⟨some d,op,ty,pos,bg,some (j,wt)⟩::l) ks ⟨n,t,h⟩ K:=ai hg he k hs
theorem fl{j:Nat}{wt:Bool}{l0:List Oper}{y:Id}{rd:List Id}(hg:vk wt ⟨n,t,h⟩ (qO l0 j)=some true)(he:bF C f call ⟨n,t,h⟩ true ⟨some d,op,ty,pos,bg,some (j,wt)⟩=some ⟨[(d,v)],y::rd,[]⟩)(k:eG C f call ⟨l0⟩ (i+1) l (ks++[(i,y::rd,[])]) ⟨n,av t d (.dz true v),h⟩ K)(hs:Nat.blt d n=true:=by exact rfl):eG C f call ⟨l0⟩ i (⟨some d,op,ty,pos,bg,some (j,wt)⟩::l) ks ⟨n,t,h⟩ K:=N0 hg he k hs
theorem gf{wt:Bool}{d:Nat}{u:aa}{FH:Option Nat}(hd:FH=some d:=by exact rfl)(h:S.t d= .dz false u:=by exact rfl):vk wt S FH=some false:=by subst hd;rw[RA,h];cases u with|val v=>(cases v<;>simp[A5])|_=>rfl
theorem no{d:Nat}{j:Nat}{wt:Bool}{l0:List Oper}(k:∀u ks',oY ks'=true→eG C f call ⟨l0⟩ (i+1) l (ks++ks') ⟨n,av t d (.dz false u),h⟩ K)(hg:vk wt ⟨n,t,h⟩ (qO l0 j)=some false:=by first|exact gf|exact rfl)(hs:Nat.blt d n=true:=by exact rfl):eG C f call ⟨l0⟩ i (⟨some d,op,ty,pos,bg,some (j,wt)⟩::l) ks ⟨n,t,h⟩ K:=by have hj:∀(v:aa)(rd:List Id),vf C f call ⟨n,t,h⟩ ⟨l0⟩ ⟨some d,op,ty,pos,bg,some (j,wt)⟩=some ⟨[(d, .dz false v)],rd,[]⟩→eG C f call ⟨l0⟩ i (⟨some d,op,ty,pos,bg,some (j,wt)⟩::l) ks ⟨n,t,h⟩ K:=fun v rd he=>CH he (by simpa using mG hs) (by have:=k v (hkey i ⟨[(d, .dz false v)],rd,[]⟩ []) (by unfold hkey oY;split<;>simp);simpa[ak.app,di]using this);rw[La,hg,KW,Lb]at hj;cases he:bF C f call ⟨n,t,h⟩ false ⟨some d,op,ty,pos,bg,some (j,wt)⟩with|none=>(exact hj .bz [] (by rw[he];rfl))|some e=>obtain⟨ep,rd,wr⟩:=e;cases wr with|cons x wr=>(exact hj .bz [] (by rw[he];rfl))|nil=>rcases Od he with⟨v,hv⟩|⟨hv,_⟩;·{simp only[put]at hv;subst hv;exact hj v rd (by rw[he];rfl)};·exact absurd rfl hv
theorem c7{A B:Option ρ}{d:Nat}{p:Bool}(hF:(if p=true then A else B)=some r)(h1:A=some r→eG C f call ops i l ks ⟨n,av t d (.val (.bool true)),h⟩ K)(h2:B=some r→eG C f call ops i l ks ⟨n,av t d (.val (.bool false)),h⟩ K)(hd:t d= .val (.bool p):=by exact rfl):eG C f call ops i l ks ⟨n,t,h⟩ K:=by have e:∀q,t d= .val (.bool q)→av t d (.val (.bool q))=t:=fun q hq=>by{funext j;unfold av;split;·{rename_i hj;subst hj;exact hq.symm};·rfl};cases p with|true=>(have:=h1 (by simpa using hF);rwa[e _ hd]at this)|false=>have:=h2 (by simpa using hF);rwa[e _ hd]at this
theorem sU{A B:Option ρ}{d:Nat}{p:Bool}(hF:(if p=true then A else B)=some r)(h1:A=some r→eG C f call ops i l ks ⟨n,av t d (.dz true (.val (.bool true))),h⟩ K)(h2:B=some r→eG C f call ops i l ks ⟨n,av t d (.dz true (.val (.bool false))),h⟩ K)(hd:t d= .dz true (.val (.bool p)):=by exact rfl):eG C f call ops i l ks ⟨n,t,h⟩ K:=by have e:∀q,t d= .dz true (.val (.bool q))→av t d (.dz true (.val (.bool q)))=t:=fun q hq=>by{funext j;unfold av;split;·{rename_i hj;subst hj;exact hq.symm};·rfl};cases p with|true=>(have:=h1 (by simpa using hF);rwa[e _ hd]at this)|false=>have:=h2 (by simpa using hF);rwa[e _ hd]at this
end
end
end Go.Ab
