import Derived.Test.YtbbhbdlljfffdaaGreatDoorAbFn
import Derived.Test.YtbbhbdlljfffdaaGreatDoorAbSimp
open Bool renaming and_eq_true→Hd
open Classical renaming choose_spec→Hb
open List renaming nil_append→GT,all_eq_true→Ha
open Nat renaming blt→AC
open Option renaming bind_some→Do,bind_eq_some_iff→GE,map_some→Hc
set_option linter.all false
namespace Go.Ab
open Go
abbrev fL:=FuncId→List U→Option (U×List U)
abbrev aU(n:Int):Int:=IntKind.i64.wrap n
def idx{α:Type}(l:List α)(i:Int):Option α:=if 0≤i then l[i.toNat]? else none
theorem B8{α β:Type}{c:α→β}{l:List α}{i:Int}{x:α}(h:idx l i=some x):idx (l.map c) i=some (c x):=by unfold idx at*;split at h;·{rw[if_pos ‹_›];simp[h]};·cases h
theorem jY{α:Type}{l:List α}{i:Int}{x:α}(h:idx l i=some x):l[i.toNat]? =some x:=by unfold idx at h;split at h;·{exact h};·cases h
theorem y2{α:Type}{l:List α}{i:Int}{x:α}(h:idx l i=some x):0≤i∧i<(l.length:Nat):=by unfold idx at h;split at h;·{rename_i hp;refine⟨hp, ?_⟩;rcases Nat.lt_or_ge i.toNat l.length with h'|h';·{omega};·rw[List.getElem?_eq_none h']at h;cases h};·cases h
theorem Ea{α β:Type}{o:Option α}{k:α→Option β}{r:β}(h:o.bind k=some r):∃x,o=some x∧k x=some r:=Option.bind_eq_some_iff.1 h
theorem bb{α β:Type}{o:Option α}{k:α→Option β}{r:β}{G:Prop}(h:o.bind k=some r)(g:∀x,o=some x→k x=some r→G):G:=by obtain⟨x,h1,h2⟩:=Ea h;exact g x h1 h2
def W(C:aG)(f:FuncId)(call:fL)(c:Code)(S:ah)(Q:Exit×ah→Prop):Prop:=∃x,ct C f call jz c S=some x∧Q x
theorem ar{P:Prop}(h:P:=by exact rfl):P:=h
def dF(C:aG)(f:FuncId)(call:fL)(ops:Array Oper)(i:Nat)(l:List Oper)(ks:List iB)(S:ah)(Q:List iB→ah→Prop):Prop:=∃x,lI C f call ops i l S=some x∧Q (ks++x.2) x.1
/-! ### Loops -/
inductive cG(σ bW:Type)where|next(s:σ)|out(x:bW)
inductive cP(bW ρ:Type)where|dS(x:bW)|ret(r:ρ)
def LoopN{σ bW:Type}(step:σ→Option (cG σ bW)):Nat→σ→Option bW|0,_=>none|m+1,s=>(step s).bind fun y=>match y with| .next s'=>LoopN step m s'| .out x=>some x
open Classical in noncomputable def Au{σ bW:Type}(step:σ→Option (cG σ bW))(s:σ):Option bW:=if h:∃x m,LoopN step m s=some x then some (Classical.choose h)else none
theorem GF{σ bW:Type}{step:σ→Option (cG σ bW)}:∀{m:Nat}{s:σ}{x:bW}(k:Nat),LoopN step m s=some x→LoopN step (m+k) s=some x|0,_,_,_,h=>by{simp[LoopN]at h}|m+1,s,x,k,h=>by rw[Nat.add_right_comm];simp only[LoopN,GE]at h⊢;obtain⟨y,h1,h2⟩:=h;refine⟨y,h1, ?_⟩;cases y with|next s'=>(exact GF k h2)|out x=>exact h2
theorem TY{σ bW:Type}{step:σ→Option (cG σ bW)}{m m':Nat}{s:σ}{x y:bW}(h1:LoopN step m s=some x)(h2:LoopN step m' s=some y):x=y:=by have e1:=GF m' h1;have e2:=GF m h2;rw[Nat.add_comm]at e2;rw[e1]at e2;exact Option.some.inj e2
theorem TX{σ bW:Type}{step:σ→Option (cG σ bW)}{s:σ}{x:bW}(h:Au step s=some x):∃m,LoopN step m s=some x:=by unfold Au at h;split at h;·{rename_i hx;simp only[Option.some.injEq]at h;subst h;exact Hb hx};·cases h
class jI where
 bX:∀{σ bW:Type},(σ→Option (cG σ bW))→σ→Option bW
 ok:∀{σ bW:Type}{step:σ→Option (cG σ bW)}{s:σ}{x:bW},bX step s=some x→∃m,LoopN step m s=some x
noncomputable instance Ke:jI:=⟨Au,TX⟩
@[reducible]def FG:jI:=⟨fun step s=>LoopN step 100000 s,fun h=>⟨100000,h⟩⟩
def Loop [jI]{σ bW:Type}(step:σ→Option (cG σ bW))(s:σ):Option bW:=jI.bX step s
theorem GG [jI]{σ bW:Type}{step:σ→Option (cG σ bW)}{s:σ}{x:bW}(h:Loop step s=some x):∃m,LoopN step m s=some x:=jI.ok h
theorem GI{σ bW:Type}{step:σ→Option (cG σ bW)}{m:Nat}{s:σ}{x:bW}(h:LoopN step m s=some x):Loop step s=some x:=by show Au step s=some x;unfold Au;have hx:∃x m,LoopN step m s=some x:=⟨x,m,h⟩;rw[dif_pos hx];obtain⟨m',h'⟩:=Hb hx;rw[TY h' h]
theorem j5{σ bW:Type}(step:σ→Option (cG σ bW))(s:σ):Loop step s=(step s).bind fun y=>match y with| .next s'=>Loop step s'| .out x=>some x:=by apply Option.ext;intro x;constructor;·{intro h;obtain⟨m,h⟩:=GG h;cases m with|zero=>(simp[LoopN]at h)|succ m=>simp only[LoopN,GE]at h⊢;obtain⟨y,h1,h2⟩:=h;refine⟨y,h1, ?_⟩;cases y with|next s'=>(exact GI h2)|out x=>exact h2};·intro h;simp only[GE]at h;obtain⟨y,h1,h2⟩:=h;cases y with|next s'=>(obtain⟨m,h3⟩:=GG h2;exact GI (m:=m+1) (by simp only[LoopN,h1,Do,h3]))|out x=>exact GI (m:=1) (by simp only[LoopN,h1,Do];exact h2)
section
variable{C:aG}{f:FuncId}{call:fL}{S:ah}{n:Nat}{t:Nat→U}{h:Id→Option (Option Rows)}
variable{Q:Exit×ah→Prop}{a b c:Code}{ρ:Type}{r:ρ}{l:List Oper}{id k:Nat}
/-! ### Code -/
def DS(C:aG)(f:FuncId)(call:fL)(b:Code)(Q:Exit×ah→Prop)(x:Exit×ah):Prop:=match x.1 with| .normal=>∃S',dm (gT C f b) x.2=some S'∧W C f call b S' Q|_=>Q x
theorem sq(h:W C f call a S (DS C f call b Q)):W C f call (.seq a b) S Q:=by obtain⟨⟨e,s⟩,h1,h2⟩:=h;cases e with|normal=>(obtain⟨S',h5,y,h3,h4⟩:=h2;exact⟨y,by simp only[ct,h1,Do,h5,h3],h4⟩)|_=>exact⟨_,by simp only[ct,h1,Do],h2⟩
theorem aO(h:W C f call b S Q)(hk:gT C f b=none:=by exact rfl):DS C f call b Q (.normal,S):=⟨S,by rw[hk];rfl,h⟩
theorem aF(h:Q (.ret,S)):DS C f call b Q (.ret,S):=h
theorem e9(h:Q (.exit k,S)):DS C f call b Q (.exit k,S):=h
theorem cd{x:Operand}{p:Bool}{A B:Option ρ}(hF:(if p=true then A else B)=some r)(h1:A=some r→W C f call a S Q)(h2:B=some r→W C f call b S Q)(hc:un true (S.get C x)= .val (.bool p):=by exact rfl):W C f call (.cond x a b) S Q:=by cases p with|true=>(obtain⟨y,h3,h4⟩:=h1 (by simpa using hF);exact⟨y,by simp only[ct,hc];simpa using h3,h4⟩)|false=>obtain⟨y,h3,h4⟩:=h2 (by simpa using hF);exact⟨y,by simp only[ct,hc];simpa using h3,h4⟩
theorem X7{x:Operand}(h1:W C f call a S Q)(hc:un true (S.get C x)= .val (.bool true):=by exact rfl):W C f call (.cond x a b) S Q:=by obtain⟨y,h3,h4⟩:=h1;exact⟨y,by simp only[ct,hc];simpa using h3,h4⟩
theorem X6{x:Operand}(h1:W C f call b S Q)(hc:un true (S.get C x)= .val (.bool false):=by exact rfl):W C f call (.cond x a b) S Q:=by obtain⟨y,h3,h4⟩:=h1;exact⟨y,by simp only[ct,hc];simpa using h3,h4⟩
theorem sk(h:Q (.normal,S)):W C f call .skip S Q:=⟨_,rfl,h⟩
theorem rt(h:Q (.ret,S)):W C f call .ret S Q:=⟨_,rfl,h⟩
theorem ex(h:Q (.exit k,S)):W C f call (.exit k) S Q:=⟨_,rfl,h⟩
def pn(C:aG)(f:FuncId)(k:Nat)(Q:Exit×ah→Prop)(x:Exit×ah):Prop:=match x.1 with| .normal=>∃S',dm (C.oz f k) x.2=some S'∧Q (.normal,S')| .exit j=>if j=k then∃S',dm (C.oz f k) x.2=some S'∧Q (.normal,S')else Q (.exit j,x.2)|_=>Q x
theorem cx(h:W C f call c S (pn C f k Q)):W C f call (.block k c) S Q:=by obtain⟨⟨e,s⟩,h1,h2⟩:=h;cases e with|normal=>(obtain⟨S',h3,h4⟩:=h2;exact⟨_,by simp only[ct,h1,Do,h3,Hc],h4⟩)|exit j=>(simp only[pn]at h2;split at h2;·{rename_i hj;obtain⟨S',h3,h4⟩:=h2;exact⟨_,by simp only[ct,h1,Do,hj,if_true,h3,Hc],h4⟩};·rename_i hj;exact⟨_,by simp only[ct,h1,Do,hj,if_false],h2⟩)|_=>exact⟨_,by simp only[ct,h1,Do],h2⟩
theorem bk(h:Q (.normal,S))(hk:C.oz f k=none:=by exact rfl):pn C f k Q (.normal,S):=⟨S,by rw[hk];rfl,h⟩
theorem aP(h:Q (.ret,S)):pn C f k Q (.ret,S):=h
theorem F6(h:Q (.normal,S))(hk:C.oz f k=none:=by exact rfl):pn C f k Q (.exit k,S):=by simp only[pn,if_true];exact⟨S,by rw[hk];rfl,h⟩
theorem ahv{j:Nat}(h:Q (.exit j,S))(hj:Nat.beq j k=false:=by exact rfl):pn C f k Q (.exit j,S):=by have:j≠k:=fun e=>by{subst e;simp at hj};simpa[pn,this]using h
/-! ### Places where the state is told anew -/
theorem Sk{S':ah}(hc:dm (C.oz f k) S=some S')(h:Q (.normal,S')):pn C f k Q (.exit k,S):=by simp only[pn,if_true];exact⟨S',hc,h⟩
def DQ(σ:Type)(o:Option (Bool×List Nat))(rep:σ→ah)(oq:σ→Option ρ)(r:ρ)(Q:Exit×ah→Prop)(x:Exit×ah):Prop:=match x.1 with| .normal=>∃s,dm o x.2=some (rep s)∧oq s=some r|_=>Q x
theorem dZ{σ:Type}(rep:σ→ah)(oq:σ→Option ρ)(ha:W C f call a S (DQ σ (gT C f b) rep oq r Q))(hk:∀s,oq s=some r→W C f call b (rep s) Q):W C f call (.seq a b) S Q:=by refine sq ?_;obtain⟨⟨e,s⟩,h1,h2⟩:=ha;refine⟨_,h1, ?_⟩;cases e with|normal=>(obtain⟨s,h3,h4⟩:=h2;exact⟨_,h3,hk s h4⟩)|_=>exact h2
theorem bg{σ:Type}{o:Option (Bool×List Nat)}{rep:σ→ah}{oq:σ→Option ρ}(s:σ)(hF:oq s=some r)(hc:dm o S=some (rep s)):DQ σ o rep oq r Q (.normal,S):=⟨s,hc,hF⟩
theorem gy{σ:Type}{o:Option (Bool×List Nat)}{rep:σ→ah}{oq:σ→Option ρ}(h:Q (.ret,S)):DQ σ o rep oq r Q (.ret,S):=h
theorem ahy{σ:Type}{o:Option (Bool×List Nat)}{rep:σ→ah}{oq:σ→Option ρ}(h:Q (.exit k,S)):DQ σ o rep oq r Q (.exit k,S):=h
section
variable{σ:Type}{rep:σ→ah}{oq:σ→Option ρ}
end
/-! ### Regions -/
section
variable{K:List iB→ah→Prop}{ops:Array Oper}{i:Nat}{ks:List iB}
def rQ(C:aG)(f:FuncId)(call:fL)(id:Nat)(ops:Array Oper)(draw:Bool)(S:ah)(Q:Exit×ah→Prop):Prop:=∃S',(oE C f call id ops draw S).bind (oA C f id)=some S'∧Q (.normal,S')
def u7(C:aG)(f:FuncId)(id:Nat)(P:ah→Prop)(ks:List iB)(S:ah):Prop:=nN (C.gX f id) ks=true∧P S
def uZ(l:List Nat)(K:ah→Prop)(S:ah):Prop:=∃S',kE l S=some S'∧K S'
def mE(p:Nat)(lo wU:List Nat)(K:ah→Prop)(S:ah):Prop:=∃S',lU p lo S=some S'∧uZ wU K S'
theorem w0{ops:Array Oper}{pJ:Bool}(h:rQ C f call id ops pJ S Q)(ha:C.k5 f id=[]:=by exact rfl):W C f call (.region id ops pJ) S Q:=by obtain⟨S',h1,h2⟩:=h;exact⟨_,by simp[ct,ha,kE,h1],h2⟩
theorem Ts{ops:Array Oper}{pJ:Bool}(h:uZ (C.k5 f id) (fun fH=>rQ C f call id ops pJ fH Q) S):W C f call (.region id ops pJ) S Q:=by obtain⟨fH,h0,S',h1,h2⟩:=h;exact⟨_,by simp[ct,h0,h1],h2⟩
theorem e3{ops:Array Oper}{pJ:Bool}(h:rQ C f call id ops pJ S fun x=>W C f call b x.2 Q)(ha:C.k5 f id=[])(hk2:gT C f b=none):W C f call (.seq (.region id ops pJ) b) S Q:=sq (w0 (by obtain⟨S',h1,h2⟩:=h;exact⟨S',h1,aO h2 hk2⟩) ha)
theorem zR{ops:Array Oper}{pJ:Bool}(h:uZ (C.k5 f id) (fun fH=>rQ C f call id ops pJ fH fun x=>W C f call b x.2 Q) S)(hk2:gT C f b=none:=by exact rfl):W C f call (.seq (.region id ops pJ) b) S Q:=sq (Ts (by obtain⟨fH,h0,S',h1,h2⟩:=h;exact⟨fH,h0,S',h1,aO h2 hk2⟩))
theorem N7(h:dF C f call ⟨l⟩ 0 l [] S fun _ S'=>Q (.normal,S'))(hk:C.jb f id=none:=by exact rfl)(hz:C.jU f id=[]:=by exact rfl)(ho:C.iP f id=[]:=by exact rfl):rQ C f call id ⟨l⟩ false S Q:=by obtain⟨x,h1,h2⟩:=h;exact⟨_,by simp[oE,h1,hk,dm,oA,hz,ho,kE,lU],h2⟩
theorem N9(h:dF C f call ⟨l⟩ 0 l [] S (u7 C f id fun S'=>Q (.normal,S')))(hk:C.jb f id=none:=by exact rfl)(hz:C.jU f id=[]:=by exact rfl)(ho:C.iP f id=[]:=by exact rfl):rQ C f call id ⟨l⟩ true S Q:=by obtain⟨x,h1,h2,h3⟩:=h;simp only[GT]at h2;exact⟨_,by simp[oE,h1,h2,hk,dm,oA,hz,ho,kE,lU],h3⟩
theorem AS(h:dF C f call ⟨l⟩ 0 l [] S fun _ S'=>mE (1000+id) (C.iP f id) (C.jU f id) (fun cX=>Q (.normal,cX)) S')(hk:C.jb f id=none:=by exact rfl):rQ C f call id ⟨l⟩ false S Q:=by obtain⟨x,h1,bD,h0,cX,h2,h3⟩:=h;exact⟨_,by simp[oE,h1,hk,dm,oA,h0,h2],h3⟩
theorem yf(h:dF C f call ⟨l⟩ 0 l [] S (u7 C f id fun S'=>mE (1000+id) (C.iP f id) (C.jU f id) (fun cX=>Q (.normal,cX)) S'))(hk:C.jb f id=none:=by exact rfl):rQ C f call id ⟨l⟩ true S Q:=by obtain⟨x,h1,h4,bD,h0,cX,h2,h3⟩:=h;simp only[GT]at h4;exact⟨_,by simp[oE,h1,h4,hk,dm,oA,h0,h2],h3⟩
theorem rg(h:dF C f call ⟨l⟩ 0 l [] S fun _ S'=>Q (.normal,S'))(hk:C.jb f id=none:=by exact rfl)(hz:C.jU f id=[]:=by exact rfl)(ho:C.iP f id=[]:=by exact rfl)(ha:C.k5 f id=[]:=by exact rfl):W C f call (.region id ⟨l⟩ false) S Q:=w0 (N7 h hk hz ho) ha
theorem ahR(h:dF C f call ⟨l⟩ 0 l [] S (u7 C f id fun S'=>Q (.normal,S')))(hk:C.jb f id=none:=by exact rfl)(hz:C.jU f id=[]:=by exact rfl)(ho:C.iP f id=[]:=by exact rfl)(ha:C.k5 f id=[]:=by exact rfl):W C f call (.region id ⟨l⟩ true) S Q:=w0 (N9 h hk hz ho) ha
theorem ag(h:dF C f call ⟨l⟩ 0 l [] S fun _ S'=>W C f call b S' Q)(hk:C.jb f id=none:=by exact rfl)(hz:C.jU f id=[]:=by exact rfl)(ho:C.iP f id=[]:=by exact rfl)(ha:C.k5 f id=[]:=by exact rfl)(hk2:gT C f b=none:=by exact rfl):W C f call (.seq (.region id ⟨l⟩ false) b) S Q:=e3 (N7 h hk hz ho) ha hk2
theorem gm(h:dF C f call ⟨l⟩ 0 l [] S (u7 C f id fun S'=>W C f call b S' Q))(hk:C.jb f id=none:=by exact rfl)(hz:C.jU f id=[]:=by exact rfl)(ho:C.iP f id=[]:=by exact rfl)(ha:C.k5 f id=[]:=by exact rfl)(hk2:gT C f b=none:=by exact rfl):W C f call (.seq (.region id ⟨l⟩ true) b) S Q:=e3 (N9 h hk hz ho) ha hk2
theorem fG(h:dF C f call ⟨l⟩ 0 l [] S fun _ S'=>mE (1000+id) (C.iP f id) (C.jU f id) (fun cX=>Q (.normal,cX)) S')(hk:C.jb f id=none:=by exact rfl)(ha:C.k5 f id=[]:=by exact rfl):W C f call (.region id ⟨l⟩ false) S Q:=w0 (AS h hk) ha
theorem Lr(h:dF C f call ⟨l⟩ 0 l [] S (u7 C f id fun S'=>mE (1000+id) (C.iP f id) (C.jU f id) (fun cX=>Q (.normal,cX)) S'))(hk:C.jb f id=none:=by exact rfl)(ha:C.k5 f id=[]:=by exact rfl):W C f call (.region id ⟨l⟩ true) S Q:=w0 (yf h hk) ha
theorem bK(h:dF C f call ⟨l⟩ 0 l [] S fun _ S'=>mE (1000+id) (C.iP f id) (C.jU f id) (fun cX=>W C f call b cX Q) S')(hk:C.jb f id=none:=by exact rfl)(ha:C.k5 f id=[]:=by exact rfl)(hk2:gT C f b=none:=by exact rfl):W C f call (.seq (.region id ⟨l⟩ false) b) S Q:=e3 (AS h hk) ha hk2
theorem nk(h:dF C f call ⟨l⟩ 0 l [] S (u7 C f id fun S'=>mE (1000+id) (C.iP f id) (C.jU f id) (fun cX=>W C f call b cX Q) S'))(hk:C.jb f id=none:=by exact rfl)(ha:C.k5 f id=[]:=by exact rfl)(hk2:gT C f b=none:=by exact rfl):W C f call (.seq (.region id ⟨l⟩ true) b) S Q:=e3 (yf h hk) ha hk2
theorem aE{p:Nat}{K:ah→Prop}{lo wU:List Nat}(k:uZ wU K S)(hl:lo=[]:=by exact rfl):mE p lo wU K S:=by subst hl;exact⟨_,rfl,k⟩
theorem aH{p:Nat}{K:ah→Prop}{S':ah}{lo wU:List Nat}(s:Nat)(sl:List Nat)(he:qf p S s=some S')(k:mE p sl wU K S')(hl:lo=s::sl:=by exact rfl):mE p lo wU K S:=by subst hl;obtain⟨cX,h1,h2⟩:=k;exact⟨cX,by simp only[lU,he,Do];exact h1,h2⟩
theorem agu{p s row off:Nat}{id:Id}{r r':List U}{x:Id×Option Rows}{wr:List (Id×Option Rows)}(hs:t s= .mp id row off)(hid:h id=some (some [r]))(hu:bU [p,s] 0 r=(r',x::wr))(Jx:AC s n=true)(hf:fresh h (x::wr)=true):qf p ⟨n,t,h⟩ s=some ⟨n,t,bp h ((id,some [r'])::x::wr)⟩:=by have hs':s<n:=of_decide_eq_true (by simp[AC]at Jx⊢;omega);simp only[qf,hs,hid,hu,List.isEmpty_cons,Bool.false_eq_true,if_false];rw[if_pos ⟨hs',hf⟩]
theorem aC{K:ah→Prop}{l:List Nat}(k:K S)(hl:l=[]:=by exact rfl):uZ l K S:=by subst hl;exact⟨_,rfl,k⟩
theorem vM{K:ah→Prop}{S':ah}{l:List Nat}(s:Nat)(sl:List Nat)(he:mQ S s=some S')(k:uZ sl K S')(hl:l=s::sl:=by exact rfl):uZ l K S:=by subst hl;obtain⟨cX,h1,h2⟩:=k;exact⟨cX,by simp only[kE,he,Do];exact h1,h2⟩
theorem nl(h:K ks S):dF C f call ops i [] ks S K:=⟨_,rfl,by simpa using h⟩
def n7(ks:List iB):Bool:=ks.all fun k=>k.2.2.isEmpty
theorem p0(gX:List (Nat×Nat)):∀ks:List iB,n7 ks=true→nN gX ks=true|[],_=>rfl|x::l,hk=>by simp only[n7,List.all_cons,Hd]at hk;have h1:=p0 gX l hk.2;simp only[nN,h1,Bool.and_true,Ha,Bool.or_eq_true];intro y hy;right;have h2:=List.all_eq_true.1 hk.2 y hy;simp only[List.isEmpty_iff]at hk h2;simp[rZ,hk.1,h2]
theorem ah0{a b:List iB}(h:n7 a=true)(k:n7 b=true):n7 (a++b)=true:=by simp only[n7,List.all_append,Hd]at*;exact⟨h,k⟩
theorem ni{gX:List (Nat×Nat)}{ks:List iB}(h:n7 ks=true:=by repeat'(first|apply ah0|assumption|exact rfl)):nN gX ks=true:=p0 gX ks h
theorem zJ(a b:List iB):n7 (a++b)=(n7 a&&n7 b):=by simp[n7]
theorem dH{P:ah→Prop}(h:P S)(hf:nN (C.gX f id) ks=true:=by first|exact rfl|exact p0 _ _ rfl|(apply p0;simp[zJ, *];done)|(apply p0;simp only[zJ,Bool.and_eq_true];(repeat' constructor)<;>first|assumption|rfl)):dF C f call ops i [] ks S (u7 C f id P):=⟨_,rfl,by simpa using hf,h⟩
def u6(σ:Type)(C:aG)(f:FuncId)(id:Nat)(draw:Bool)(rep:σ→ah)(x:σ)(ks:List iB)(S:ah):Prop:=(draw=true→nN (C.gX f id) ks=true)∧mE (1000+id) (C.iP f id) (C.jU f id) (fun cX=>dm (C.jb f id) cX=some (rep x)) S
theorem N8{σ:Type}{draw:Bool}{A:Option σ}{o8:σ→Option ρ}(rep:σ→ah)(hF:A.bind o8=some r)(k1:∀x,A=some x→dF C f call ⟨l⟩ 0 l [] S (u6 σ C f id draw rep x))(k2:∀x,o8 x=some r→Q (.normal,rep x)):rQ C f call id ⟨l⟩ draw S Q:=by obtain⟨x,h1,h2⟩:=Ea hF;obtain⟨y,h3,h4,bD,h5,cX,h6,h7⟩:=k1 x h1;simp only[GT]at h4;refine⟨rep x, ?_,k2 x h2⟩;simp only[oE,h3,Do];cases draw with|false=>(simp[oA,h5,h6,h7])|true=>simp[h4 rfl,oA,h5,h6,h7]
theorem Lq{σ:Type}{draw:Bool}{A:Option σ}{o8:σ→Option ρ}(rep:σ→ah)(hF:A.bind o8=some r)(k1:∀x,A=some x→dF C f call ⟨l⟩ 0 l [] S (u6 σ C f id draw rep x))(k2:∀x,o8 x=some r→Q (.normal,rep x))(ha:C.k5 f id=[]:=by exact rfl):W C f call (.region id ⟨l⟩ draw) S Q:=w0 (N8 rep hF k1 k2) ha
theorem dn{σ:Type}{draw:Bool}{A:Option σ}{o8:σ→Option ρ}(rep:σ→ah)(hF:A.bind o8=some r)(k1:∀x,A=some x→dF C f call ⟨l⟩ 0 l [] S (u6 σ C f id draw rep x))(k2:∀x,o8 x=some r→W C f call b (rep x) Q)(ha:C.k5 f id=[]:=by exact rfl)(hk2:gT C f b=none:=by exact rfl):W C f call (.seq (.region id ⟨l⟩ draw) b) S Q:=e3 (N8 rep hF k1 k2) ha hk2
theorem qb{σ:Type}{rep:σ→ah}{x:σ}(h:mE (1000+id) (C.iP f id) (C.jU f id) (fun cX=>dm (C.jb f id) cX=some (rep x)) S):dF C f call ops i [] ks S (u6 σ C f id false rep x):=⟨_,rfl,And.intro (fun e=>Bool.noConfusion e) h⟩
theorem ae5{σ:Type}{rep:σ→ah}{x:σ}(h:mE (1000+id) (C.iP f id) (C.jU f id) (fun cX=>dm (C.jb f id) cX=some (rep x)) S)(hf:nN (C.gX f id) ks=true:=by first|exact rfl|exact p0 _ _ rfl|(apply p0;simp[zJ, *];done)|(apply p0;simp only[zJ,Bool.and_eq_true];(repeat' constructor)<;>first|assumption|rfl)):dF C f call ops i [] ks S (u6 σ C f id true rep x):=⟨_,rfl,And.intro (fun _=>by simpa using hf) h⟩
theorem bt{σ:Type}{rep:σ→ah}{x:σ}(hc:dm (C.jb f id) S=some (rep x))(hz:C.jU f id=[]:=by exact rfl)(ho:C.iP f id=[]:=by exact rfl):dF C f call ops i [] ks S (u6 σ C f id false rep x):=qb (by rw[hz,ho];exact⟨_,rfl,_,rfl,hc⟩)
theorem j4{σ:Type}{rep:σ→ah}{x:σ}(hc:dm (C.jb f id) S=some (rep x))(hf:nN (C.gX f id) ks=true:=by first|exact rfl|exact p0 _ _ rfl|(apply p0;simp[zJ, *];done)|(apply p0;simp only[zJ,Bool.and_eq_true];(repeat' constructor)<;>first|assumption|rfl))(hz:C.jU f id=[]:=by exact rfl)(ho:C.iP f id=[]:=by exact rfl):dF C f call ops i [] ks S (u6 σ C f id true rep x):=ae5 (by rw[hz,ho];exact⟨_,rfl,_,rfl,hc⟩) hf
variable{d:Nat}{ty:TypeId}{pos:String}{aV:Array Edge}{bB:Option (Nat×Bool)}{op:Op}{v:U}{g:Bool}
theorem acw(i:Nat)(e:bq)(l:List iB):hkey i e l=hkey i e []++l:=by unfold hkey;split<;>simp
theorem xh{o:Oper}{e:bq}(he:tE C f call S ops o=some e)(hs:(e.dz.all fun x=>decide (x.1<S.n))=true)(k:dF C f call ops (i+1) l (ks++hkey i e []) (S.app e) K):dF C f call ops i (o::l) ks S K:=by obtain⟨x,h1,h2⟩:=k;refine⟨(x.1,hkey i e x.2), ?_, ?_⟩;·{simp only[lI,he,Do];rw[if_pos hs,h1];rfl};·rw[acw];simpa using h2
theorem lG{d n:Nat}(h:AC d n=true):decide (d<n)=true:=by simp[AC]at h⊢;omega
theorem pp(he:bA C f call ⟨n,t,h⟩ true ⟨some d,op,ty,pos,aV,none⟩=some ⟨[(d,v)],[],[]⟩)(k:dF C f call ops (i+1) l ks ⟨n,ak t d v,h⟩ K)(hs:AC d n=true:=by exact rfl):dF C f call ops i (⟨some d,op,ty,pos,aV,none⟩::l) ks ⟨n,t,h⟩ K:=xh (e:=⟨[(d,v)],[],[]⟩) he (by simpa using lG hs) (by simpa[hkey,ah.app]using k)
theorem rr{y:Id}{rd:List Id}(he:bA C f call ⟨n,t,h⟩ true ⟨some d,op,ty,pos,aV,none⟩=some ⟨[(d,v)],y::rd,[]⟩)(k:dF C f call ops (i+1) l (ks++[(i,y::rd,[])]) ⟨n,ak t d v,h⟩ K)(hs:AC d n=true:=by exact rfl):dF C f call ops i (⟨some d,op,ty,pos,aV,none⟩::l) ks ⟨n,t,h⟩ K:=xh (e:=⟨[(d,v)],y::rd,[]⟩) he (by simpa using lG hs) (by simpa[hkey,ah.app]using k)
theorem ww{uy:Option Nat}{dz:List (Nat×U)}{rd:List Id}{x:Id×Option Rows}{wr:List (Id×Option Rows)}(he:bA C f call ⟨n,t,h⟩ true ⟨uy,op,ty,pos,aV,none⟩=some ⟨dz,rd,x::wr⟩)(k:dF C f call ops (i+1) l (ks++[(i,rd,(x::wr).map (·.1))]) ⟨n,cW t dz,bp h (x::wr)⟩ K)(hs:(dz.all fun x=>AC x.1 n)=true:=by exact rfl):dF C f call ops i (⟨uy,op,ty,pos,aV,none⟩::l) ks ⟨n,t,h⟩ K:=xh (e:=⟨dz,rd,x::wr⟩) he (by rw[Ha]at hs⊢;exact fun y hy=>lG (hs y hy)) (by simpa[hkey,ah.app]using k)
theorem aq{j:Nat}{wt:Bool}{l0:List Oper}(hg:sg wt ⟨n,t,h⟩ (oD l0 j)=some g)(he:bA C f call ⟨n,t,h⟩ g ⟨some d,op,ty,pos,aV,some (j,wt)⟩=some ⟨[(d,v)],[],[]⟩)(k:dF C f call ⟨l0⟩ (i+1) l ks ⟨n,ak t d (.c8 g v),h⟩ K)(hs:AC d n=true:=by exact rfl):dF C f call ⟨l0⟩ i (⟨some d,op,ty,pos,aV,some (j,wt)⟩::l) ks ⟨n,t,h⟩ K:=xh (e:=⟨[(d, .c8 g v)],[],[]⟩) (by rw[Es,hg,Ei,Eu,he];rfl) (by simpa using lG hs) (by simpa[hkey,ah.app]using k)
theorem ahS{j:Nat}{wt:Bool}{l0:List Oper}{y:Id}{rd:List Id}(hg:sg wt ⟨n,t,h⟩ (oD l0 j)=some g)(he:bA C f call ⟨n,t,h⟩ g ⟨some d,op,ty,pos,aV,some (j,wt)⟩=some ⟨[(d,v)],y::rd,[]⟩)(k:dF C f call ⟨l0⟩ (i+1) l (ks++[(i,y::rd,[])]) ⟨n,ak t d (.c8 g v),h⟩ K)(hs:AC d n=true:=by exact rfl):dF C f call ⟨l0⟩ i (⟨some d,op,ty,pos,aV,some (j,wt)⟩::l) ks ⟨n,t,h⟩ K:=xh (e:=⟨[(d, .c8 g v)],y::rd,[]⟩) (by rw[Es,hg,Ei,Eu,he];rfl) (by simpa using lG hs) (by simpa[hkey,ah.app]using k)
theorem pt{j:Nat}{wt:Bool}{l0:List Oper}(hg:sg wt ⟨n,t,h⟩ (oD l0 j)=some true)(he:bA C f call ⟨n,t,h⟩ true ⟨some d,op,ty,pos,aV,some (j,wt)⟩=some ⟨[(d,v)],[],[]⟩)(k:dF C f call ⟨l0⟩ (i+1) l ks ⟨n,ak t d (.c8 true v),h⟩ K)(hs:AC d n=true:=by exact rfl):dF C f call ⟨l0⟩ i (⟨some d,op,ty,pos,aV,some (j,wt)⟩::l) ks ⟨n,t,h⟩ K:=aq hg he k hs
theorem Gh{j:Nat}{wt:Bool}{l0:List Oper}{y:Id}{rd:List Id}(hg:sg wt ⟨n,t,h⟩ (oD l0 j)=some true)(he:bA C f call ⟨n,t,h⟩ true ⟨some d,op,ty,pos,aV,some (j,wt)⟩=some ⟨[(d,v)],y::rd,[]⟩)(k:dF C f call ⟨l0⟩ (i+1) l (ks++[(i,y::rd,[])]) ⟨n,ak t d (.c8 true v),h⟩ K)(hs:AC d n=true:=by exact rfl):dF C f call ⟨l0⟩ i (⟨some d,op,ty,pos,aV,some (j,wt)⟩::l) ks ⟨n,t,h⟩ K:=ahS hg he k hs
theorem Dy{j:Nat}{wt:Bool}{l0:List Oper}{dz:List (Nat×U)}{rd:List Id}{x:Id×Option Rows}{wr:List (Id×Option Rows)}{uy:Option Nat}(hg:sg wt ⟨n,t,h⟩ (oD l0 j)=some true)(he:bA C f call ⟨n,t,h⟩ true ⟨uy,op,ty,pos,aV,some (j,wt)⟩=some ⟨dz,rd,x::wr⟩)(k:dF C f call ⟨l0⟩ (i+1) l (ks++[(i,rd,(x::wr).map (·.1))]) ⟨n,cW t dz,bp h (x::wr)⟩ K)(hs:(dz.all fun x=>AC x.1 n)=true:=by exact rfl):dF C f call ⟨l0⟩ i (⟨uy,op,ty,pos,aV,some (j,wt)⟩::l) ks ⟨n,t,h⟩ K:=xh (e:=⟨dz,rd,x::wr⟩) (by rw[Es,hg,Ei,Eu,he];rfl) (by rw[Ha]at hs⊢;exact fun y hy=>lG (hs y hy)) (by simpa[hkey,ah.app]using k)
theorem gf{wt:Bool}{d:Nat}{u:U}{uy:Option Nat}(hd:uy=some d:=by exact rfl)(h:S.t d= .c8 false u:=by exact rfl):sg wt S uy=some false:=by subst hd;rw[Pp,h];cases u with|val v=>(cases v<;>simp[yB])|_=>rfl
theorem no{d:Nat}{j:Nat}{wt:Bool}{l0:List Oper}(k:∀u ks',n7 ks'=true→dF C f call ⟨l0⟩ (i+1) l (ks++ks') ⟨n,ak t d (.c8 false u),h⟩ K)(hg:sg wt ⟨n,t,h⟩ (oD l0 j)=some false:=by first|exact gf|exact rfl)(hs:AC d n=true:=by exact rfl):dF C f call ⟨l0⟩ i (⟨some d,op,ty,pos,aV,some (j,wt)⟩::l) ks ⟨n,t,h⟩ K:=by have hj:∀(v:U)(rd:List Id),tE C f call ⟨n,t,h⟩ ⟨l0⟩ ⟨some d,op,ty,pos,aV,some (j,wt)⟩=some ⟨[(d, .c8 false v)],rd,[]⟩→dF C f call ⟨l0⟩ i (⟨some d,op,ty,pos,aV,some (j,wt)⟩::l) ks ⟨n,t,h⟩ K:=fun v rd he=>xh he (by simpa using lG hs) (by have:=k v (hkey i ⟨[(d, .c8 false v)],rd,[]⟩ []) (by unfold hkey n7;split<;>simp);simpa[ah.app,cW]using this);rw[Es,hg,Ei,Eu]at hj;cases he:bA C f call ⟨n,t,h⟩ false ⟨some d,op,ty,pos,aV,some (j,wt)⟩with|none=>(exact hj .br [] (by rw[he];rfl))|some e=>obtain⟨dz,rd,wr⟩:=e;cases wr with|cons x wr=>(exact hj .br [] (by rw[he];rfl))|nil=>rcases LH he with⟨v,hv⟩|⟨hv,_⟩;·{simp only[put]at hv;subst hv;exact hj v rd (by rw[he];rfl)};·exact absurd rfl hv
theorem cH{A B:Option ρ}{d:Nat}{p:Bool}(hF:(if p=true then A else B)=some r)(h1:A=some r→dF C f call ops i l ks ⟨n,ak t d (.val (.bool true)),h⟩ K)(h2:B=some r→dF C f call ops i l ks ⟨n,ak t d (.val (.bool false)),h⟩ K)(hd:t d= .val (.bool p):=by exact rfl):dF C f call ops i l ks ⟨n,t,h⟩ K:=by have e:∀q,t d= .val (.bool q)→ak t d (.val (.bool q))=t:=fun q hq=>by{funext j;unfold ak;split;·{rename_i hj;subst hj;exact hq.symm};·rfl};cases p with|true=>(have:=h1 (by simpa using hF);rwa[e _ hd]at this)|false=>have:=h2 (by simpa using hF);rwa[e _ hd]at this
theorem iw{A B:Option ρ}{d:Nat}{p:Bool}(hF:(if p=true then A else B)=some r)(h1:A=some r→dF C f call ops i l ks ⟨n,ak t d (.c8 true (.val (.bool true))),h⟩ K)(h2:B=some r→dF C f call ops i l ks ⟨n,ak t d (.c8 true (.val (.bool false))),h⟩ K)(hd:t d= .c8 true (.val (.bool p)):=by exact rfl):dF C f call ops i l ks ⟨n,t,h⟩ K:=by have e:∀q,t d= .c8 true (.val (.bool q))→ak t d (.c8 true (.val (.bool q)))=t:=fun q hq=>by{funext j;unfold ak;split;·{rename_i hj;subst hj;exact hq.symm};·rfl};cases p with|true=>(have:=h1 (by simpa using hF);rwa[e _ hd]at this)|false=>have:=h2 (by simpa using hF);rwa[e _ hd]at this
end
end
end Go.Ab
