import Derived.Test.YtbbhbdlljfffdaaGreatDoorAbFn
import Derived.Test.YtbbhbdlljfffdaaGreatDoorAbSimp
open Bool renaming and_eq_true→Hm
open Classical renaming choose_spec→Hd
open List renaming nil_append→Hb,all_eq_true→Hc
open Nat renaming blt→GE
open Option renaming bind_some→GT,bind_eq_some_iff→Ha,map_some→Hk
set_option linter.all false
namespace Go.Ab
open Go
abbrev gd:=FuncId→List U→Option (U×List U)
abbrev aR(n:Int):Int:=IntKind.i64.wrap n
def idx{α:Type}(l:List α)(i:Int):Option α:=if 0≤i then l[i.toNat]? else none
theorem C6{α β:Type}{c:α→β}{l:List α}{i:Int}{x:α}(h:idx l i=some x):idx (l.map c) i=some (c x):=by unfold idx at*;split at h;·{rw[AC ‹_›];simp[h]};·cases h
theorem gH{α:Type}{l:List α}{i:Int}{x:α}(h:idx l i=some x):l[i.toNat]? =some x:=by unfold idx at h;split at h;·{exact h};·cases h
theorem Ag{α:Type}{l:List α}{i:Int}{x:α}(h:idx l i=some x):0≤i∧i<(l.length:Nat):=by unfold idx at h;split at h;·{rename_i hp;refine⟨hp, ?_⟩;rcases Nat.lt_or_ge i.toNat l.length with h'|h';·{omega};·rw[List.getElem?_eq_none h']at h;cases h};·cases h
theorem Ff{α β:Type}{o:Option α}{k:α→Option β}{r:β}(h:o.bind k=some r):∃x,o=some x∧k x=some r:=Option.bind_eq_some_iff.1 h
theorem bb{α β:Type}{o:Option α}{k:α→Option β}{r:β}{G:Prop}(h:o.bind k=some r)(g:∀x,o=some x→k x=some r→G):G:=by obtain⟨x,h1,h2⟩:=Ff h;exact g x h1 h2
def W(C:aL)(f:FuncId)(call:gd)(c:Code)(S:ah)(Q:Exit×ah→Prop):Prop:=∃x,cy C f call jV c S=some x∧Q x
theorem ar{P:Prop}(h:P:=by exact rfl):P:=h
def dP(C:aL)(f:FuncId)(call:gd)(ops:Array Oper)(i:Nat)(l:List Oper)(ks:List iU)(S:ah)(Q:List iU→ah→Prop):Prop:=∃x,l9 C f call ops i l S=some x∧Q (ks++x.2) x.1
/-! ### Loops -/
inductive cE(σ bY:Type)where|next(s:σ)|out(x:bY)
inductive cL(bY ρ:Type)where|ep(x:bY)|ret(r:ρ)
def LoopN{σ bY:Type}(step:σ→Option (cE σ bY)):Nat→σ→Option bY|0,_=>none|m+1,s=>(step s).bind fun y=>match y with| .next s'=>LoopN step m s'| .out x=>some x
open Classical in noncomputable def BA{σ bY:Type}(step:σ→Option (cE σ bY))(s:σ):Option bY:=if h:∃x m,LoopN step m s=some x then some (Classical.choose h)else none
theorem HU{σ bY:Type}{step:σ→Option (cE σ bY)}:∀{m:Nat}{s:σ}{x:bY}(k:Nat),LoopN step m s=some x→LoopN step (m+k) s=some x|0,_,_,_,h=>by{simp[LoopN]at h}|m+1,s,x,k,h=>by rw[Nat.add_right_comm];simp only[LoopN,Ha]at h⊢;obtain⟨y,h1,h2⟩:=h;refine⟨y,h1, ?_⟩;cases y with|next s'=>(exact HU k h2)|out x=>exact h2
theorem Vr{σ bY:Type}{step:σ→Option (cE σ bY)}{m m':Nat}{s:σ}{x y:bY}(h1:LoopN step m s=some x)(h2:LoopN step m' s=some y):x=y:=by have e1:=HU m' h1;have e2:=HU m h2;rw[Nat.add_comm]at e2;rw[e1]at e2;exact Option.some.inj e2
theorem Vq{σ bY:Type}{step:σ→Option (cE σ bY)}{s:σ}{x:bY}(h:BA step s=some x):∃m,LoopN step m s=some x:=by unfold BA at h;split at h;·{rename_i hx;simp only[Option.some.injEq]at h;subst h;exact Hd hx};·cases h
class j6 where
 bV:∀{σ bY:Type},(σ→Option (cE σ bY))→σ→Option bY
 ok:∀{σ bY:Type}{step:σ→Option (cE σ bY)}{s:σ}{x:bY},bV step s=some x→∃m,LoopN step m s=some x
noncomputable instance agj:j6:=⟨BA,Vq⟩
@[reducible]def Sr:j6:=⟨fun step s=>LoopN step 100000 s,fun h=>⟨100000,h⟩⟩
def Loop [j6]{σ bY:Type}(step:σ→Option (cE σ bY))(s:σ):Option bY:=j6.bV step s
theorem HV [j6]{σ bY:Type}{step:σ→Option (cE σ bY)}{s:σ}{x:bY}(h:Loop step s=some x):∃m,LoopN step m s=some x:=j6.ok h
theorem HW{σ bY:Type}{step:σ→Option (cE σ bY)}{m:Nat}{s:σ}{x:bY}(h:LoopN step m s=some x):Loop step s=some x:=by show BA step s=some x;unfold BA;have hx:∃x m,LoopN step m s=some x:=⟨x,m,h⟩;rw[dif_pos hx];obtain⟨m',h'⟩:=Hd hx;rw[Vr h' h]
theorem j7{σ bY:Type}(step:σ→Option (cE σ bY))(s:σ):Loop step s=(step s).bind fun y=>match y with| .next s'=>Loop step s'| .out x=>some x:=by apply Option.ext;intro x;constructor;·{intro h;obtain⟨m,h⟩:=HV h;cases m with|zero=>(simp[LoopN]at h)|succ m=>simp only[LoopN,Ha]at h⊢;obtain⟨y,h1,h2⟩:=h;refine⟨y,h1, ?_⟩;cases y with|next s'=>(exact HW h2)|out x=>exact h2};·intro h;simp only[Ha]at h;obtain⟨y,h1,h2⟩:=h;cases y with|next s'=>(obtain⟨m,h3⟩:=HV h2;exact HW (m:=m+1) (by simp only[LoopN,h1,GT,h3]))|out x=>exact HW (m:=1) (by simp only[LoopN,h1,GT];exact h2)
section
variable{C:aL}{f:FuncId}{call:gd}{S:ah}{n:Nat}{t:Nat→U}{h:Id→Option (Option Rows)}
variable{Q:Exit×ah→Prop}{a b c:Code}{ρ:Type}{r:ρ}{l:List Oper}{id k:Nat}
/-! ### Code -/
def EU(C:aL)(f:FuncId)(call:gd)(b:Code)(Q:Exit×ah→Prop)(x:Exit×ah):Prop:=match x.1 with| .normal=>∃S',dB (ir C f b) x.2=some S'∧W C f call b S' Q|_=>Q x
theorem sq(h:W C f call a S (EU C f call b Q)):W C f call (.seq a b) S Q:=by obtain⟨⟨e,s⟩,h1,h2⟩:=h;cases e with|normal=>(obtain⟨S',h5,y,h3,h4⟩:=h2;exact⟨y,by simp only[cy,h1,GT,h5,h3],h4⟩)|_=>exact⟨_,by simp only[cy,h1,GT],h2⟩
theorem aO(h:W C f call b S Q)(hk:ir C f b=none:=by exact rfl):EU C f call b Q (.normal,S):=⟨S,by rw[hk];rfl,h⟩
theorem aC(h:Q (.ret,S)):EU C f call b Q (.ret,S):=h
theorem eZ(h:Q (.exit k,S)):EU C f call b Q (.exit k,S):=h
theorem cd{x:Operand}{p:Bool}{A B:Option ρ}(hF:(if p=true then A else B)=some r)(h1:A=some r→W C f call a S Q)(h2:B=some r→W C f call b S Q)(hc:un true (S.get C x)= .val (.bool p):=by exact rfl):W C f call (.cond x a b) S Q:=by cases p with|true=>(obtain⟨y,h3,h4⟩:=h1 (by simpa using hF);exact⟨y,by simp only[cy,hc];simpa using h3,h4⟩)|false=>obtain⟨y,h3,h4⟩:=h2 (by simpa using hF);exact⟨y,by simp only[cy,hc];simpa using h3,h4⟩
theorem ZJ{x:Operand}(h1:W C f call a S Q)(hc:un true (S.get C x)= .val (.bool true):=by exact rfl):W C f call (.cond x a b) S Q:=by obtain⟨y,h3,h4⟩:=h1;exact⟨y,by simp only[cy,hc];simpa using h3,h4⟩
theorem ZI{x:Operand}(h1:W C f call b S Q)(hc:un true (S.get C x)= .val (.bool false):=by exact rfl):W C f call (.cond x a b) S Q:=by obtain⟨y,h3,h4⟩:=h1;exact⟨y,by simp only[cy,hc];simpa using h3,h4⟩
theorem sk(h:Q (.normal,S)):W C f call .skip S Q:=⟨_,rfl,h⟩
theorem rt(h:Q (.ret,S)):W C f call .ret S Q:=⟨_,rfl,h⟩
theorem ex(h:Q (.exit k,S)):W C f call (.exit k) S Q:=⟨_,rfl,h⟩
def qe(C:aL)(f:FuncId)(k:Nat)(Q:Exit×ah→Prop)(x:Exit×ah):Prop:=match x.1 with| .normal=>∃S',dB (C.pn f k) x.2=some S'∧Q (.normal,S')| .exit j=>if j=k then∃S',dB (C.pn f k) x.2=some S'∧Q (.normal,S')else Q (.exit j,x.2)|_=>Q x
theorem cg(h:W C f call c S (qe C f k Q)):W C f call (.block k c) S Q:=by obtain⟨⟨e,s⟩,h1,h2⟩:=h;cases e with|normal=>(obtain⟨S',h3,h4⟩:=h2;exact⟨_,by simp only[cy,h1,GT,h3,Hk],h4⟩)|exit j=>(simp only[qe]at h2;split at h2;·{rename_i hj;obtain⟨S',h3,h4⟩:=h2;exact⟨_,by simp only[cy,h1,GT,hj,if_true,h3,Hk],h4⟩};·rename_i hj;exact⟨_,by simp only[cy,h1,GT,hj,if_false],h2⟩)|_=>exact⟨_,by simp only[cy,h1,GT],h2⟩
theorem aU(h:Q (.normal,S))(hk:C.pn f k=none:=by exact rfl):qe C f k Q (.normal,S):=⟨S,by rw[hk];rfl,h⟩
theorem aK(h:Q (.ret,S)):qe C f k Q (.ret,S):=h
theorem AO(h:Q (.normal,S))(hk:C.pn f k=none:=by exact rfl):qe C f k Q (.exit k,S):=by simp only[qe,if_true];exact⟨S,by rw[hk];rfl,h⟩
theorem ajf{j:Nat}(h:Q (.exit j,S))(hj:Nat.beq j k=false:=by exact rfl):qe C f k Q (.exit j,S):=by have:j≠k:=fun e=>by{subst e;simp at hj};simpa[qe,this]using h
/-! ### Places where the state is told anew -/
theorem TN{S':ah}(hc:dB (C.pn f k) S=some S')(h:Q (.normal,S')):qe C f k Q (.exit k,S):=by simp only[qe,if_true];exact⟨S',hc,h⟩
def ES(σ:Type)(o:Option (Bool×List Nat))(rep:σ→ah)(o6:σ→Option ρ)(r:ρ)(Q:Exit×ah→Prop)(x:Exit×ah):Prop:=match x.1 with| .normal=>∃s,dB o x.2=some (rep s)∧o6 s=some r|_=>Q x
theorem dH{σ:Type}(rep:σ→ah)(o6:σ→Option ρ)(ha:W C f call a S (ES σ (ir C f b) rep o6 r Q))(hk:∀s,o6 s=some r→W C f call b (rep s) Q):W C f call (.seq a b) S Q:=by refine sq ?_;obtain⟨⟨e,s⟩,h1,h2⟩:=ha;refine⟨_,h1, ?_⟩;cases e with|normal=>(obtain⟨s,h3,h4⟩:=h2;exact⟨_,h3,hk s h4⟩)|_=>exact h2
theorem bf{σ:Type}{o:Option (Bool×List Nat)}{rep:σ→ah}{o6:σ→Option ρ}(s:σ)(hF:o6 s=some r)(hc:dB o S=some (rep s)):ES σ o rep o6 r Q (.normal,S):=⟨s,hc,hF⟩
theorem gD{σ:Type}{o:Option (Bool×List Nat)}{rep:σ→ah}{o6:σ→Option ρ}(h:Q (.ret,S)):ES σ o rep o6 r Q (.ret,S):=h
theorem aji{σ:Type}{o:Option (Bool×List Nat)}{rep:σ→ah}{o6:σ→Option ρ}(h:Q (.exit k,S)):ES σ o rep o6 r Q (.exit k,S):=h
section
variable{σ:Type}{rep:σ→ah}{o6:σ→Option ρ}
end
/-! ### Regions -/
section
variable{K:List iU→ah→Prop}{ops:Array Oper}{i:Nat}{ks:List iU}
def sE(C:aL)(f:FuncId)(call:gd)(id:Nat)(ops:Array Oper)(draw:Bool)(S:ah)(Q:Exit×ah→Prop):Prop:=∃S',(pG C f call id ops draw S).bind (pq C f id)=some S'∧Q (.normal,S')
def vQ(C:aL)(f:FuncId)(id:Nat)(P:ah→Prop)(ks:List iU)(S:ah):Prop:=oD (C.iy f id) ks=true∧P S
def vM(l:List Nat)(K:ah→Prop)(S:ah):Prop:=∃S',kV l S=some S'∧K S'
def nu(p:Nat)(lo xP:List Nat)(K:ah→Prop)(S:ah):Prop:=∃S',mD p lo S=some S'∧vM xP K S'
theorem w0{ops:Array Oper}{qn:Bool}(h:sE C f call id ops qn S Q)(ha:C.lI f id=[]:=by exact rfl):W C f call (.region id ops qn) S Q:=by obtain⟨S',h1,h2⟩:=h;exact⟨_,by simp[cy,ha,kV,h1],h2⟩
theorem UZ{ops:Array Oper}{qn:Bool}(h:vM (C.lI f id) (fun fU=>sE C f call id ops qn fU Q) S):W C f call (.region id ops qn) S Q:=by obtain⟨fU,h0,S',h1,h2⟩:=h;exact⟨_,by simp[cy,h0,h1],h2⟩
theorem fh{ops:Array Oper}{qn:Bool}(h:sE C f call id ops qn S fun x=>W C f call b x.2 Q)(ha:C.lI f id=[])(hk2:ir C f b=none):W C f call (.seq (.region id ops qn) b) S Q:=sq (w0 (by obtain⟨S',h1,h2⟩:=h;exact⟨S',h1,aO h2 hk2⟩) ha)
theorem A0{ops:Array Oper}{qn:Bool}(h:vM (C.lI f id) (fun fU=>sE C f call id ops qn fU fun x=>W C f call b x.2 Q) S)(hk2:ir C f b=none:=by exact rfl):W C f call (.seq (.region id ops qn) b) S Q:=sq (UZ (by obtain⟨fU,h0,S',h1,h2⟩:=h;exact⟨fU,h0,S',h1,aO h2 hk2⟩))
theorem O2(h:dP C f call ⟨l⟩ 0 l [] S fun _ S'=>Q (.normal,S'))(hk:C.ju f id=none:=by exact rfl)(hz:C.ki f id=[]:=by exact rfl)(ho:C.jh f id=[]:=by exact rfl):sE C f call id ⟨l⟩ false S Q:=by obtain⟨x,h1,h2⟩:=h;exact⟨_,by simp[pG,h1,hk,dB,pq,hz,ho,kV,mD],h2⟩
theorem O4(h:dP C f call ⟨l⟩ 0 l [] S (vQ C f id fun S'=>Q (.normal,S')))(hk:C.ju f id=none:=by exact rfl)(hz:C.ki f id=[]:=by exact rfl)(ho:C.jh f id=[]:=by exact rfl):sE C f call id ⟨l⟩ true S Q:=by obtain⟨x,h1,h2,h3⟩:=h;simp only[Hb]at h2;exact⟨_,by simp[pG,h1,h2,hk,dB,pq,hz,ho,kV,mD],h3⟩
theorem B2(h:dP C f call ⟨l⟩ 0 l [] S fun _ S'=>nu (1000+id) (C.jh f id) (C.ki f id) (fun c9=>Q (.normal,c9)) S')(hk:C.ju f id=none:=by exact rfl):sE C f call id ⟨l⟩ false S Q:=by obtain⟨x,h1,bJ,h0,c9,h2,h3⟩:=h;exact⟨_,by simp[pG,h1,hk,dB,pq,h0,h2],h3⟩
theorem zn(h:dP C f call ⟨l⟩ 0 l [] S (vQ C f id fun S'=>nu (1000+id) (C.jh f id) (C.ki f id) (fun c9=>Q (.normal,c9)) S'))(hk:C.ju f id=none:=by exact rfl):sE C f call id ⟨l⟩ true S Q:=by obtain⟨x,h1,h4,bJ,h0,c9,h2,h3⟩:=h;simp only[Hb]at h4;exact⟨_,by simp[pG,h1,h4,hk,dB,pq,h0,h2],h3⟩
theorem rg(h:dP C f call ⟨l⟩ 0 l [] S fun _ S'=>Q (.normal,S'))(hk:C.ju f id=none:=by exact rfl)(hz:C.ki f id=[]:=by exact rfl)(ho:C.jh f id=[]:=by exact rfl)(ha:C.lI f id=[]:=by exact rfl):W C f call (.region id ⟨l⟩ false) S Q:=w0 (O2 h hk hz ho) ha
theorem ye(h:dP C f call ⟨l⟩ 0 l [] S (vQ C f id fun S'=>Q (.normal,S')))(hk:C.ju f id=none:=by exact rfl)(hz:C.ki f id=[]:=by exact rfl)(ho:C.jh f id=[]:=by exact rfl)(ha:C.lI f id=[]:=by exact rfl):W C f call (.region id ⟨l⟩ true) S Q:=w0 (O4 h hk hz ho) ha
theorem ag(h:dP C f call ⟨l⟩ 0 l [] S fun _ S'=>W C f call b S' Q)(hk:C.ju f id=none:=by exact rfl)(hz:C.ki f id=[]:=by exact rfl)(ho:C.jh f id=[]:=by exact rfl)(ha:C.lI f id=[]:=by exact rfl)(hk2:ir C f b=none:=by exact rfl):W C f call (.seq (.region id ⟨l⟩ false) b) S Q:=fh (O2 h hk hz ho) ha hk2
theorem eO(h:dP C f call ⟨l⟩ 0 l [] S (vQ C f id fun S'=>W C f call b S' Q))(hk:C.ju f id=none:=by exact rfl)(hz:C.ki f id=[]:=by exact rfl)(ho:C.jh f id=[]:=by exact rfl)(ha:C.lI f id=[]:=by exact rfl)(hk2:ir C f b=none:=by exact rfl):W C f call (.seq (.region id ⟨l⟩ true) b) S Q:=fh (O4 h hk hz ho) ha hk2
theorem fT(h:dP C f call ⟨l⟩ 0 l [] S fun _ S'=>nu (1000+id) (C.jh f id) (C.ki f id) (fun c9=>Q (.normal,c9)) S')(hk:C.ju f id=none:=by exact rfl)(ha:C.lI f id=[]:=by exact rfl):W C f call (.region id ⟨l⟩ false) S Q:=w0 (B2 h hk) ha
theorem Mh(h:dP C f call ⟨l⟩ 0 l [] S (vQ C f id fun S'=>nu (1000+id) (C.jh f id) (C.ki f id) (fun c9=>Q (.normal,c9)) S'))(hk:C.ju f id=none:=by exact rfl)(ha:C.lI f id=[]:=by exact rfl):W C f call (.region id ⟨l⟩ true) S Q:=w0 (zn h hk) ha
theorem bL(h:dP C f call ⟨l⟩ 0 l [] S fun _ S'=>nu (1000+id) (C.jh f id) (C.ki f id) (fun c9=>W C f call b c9 Q) S')(hk:C.ju f id=none:=by exact rfl)(ha:C.lI f id=[]:=by exact rfl)(hk2:ir C f b=none:=by exact rfl):W C f call (.seq (.region id ⟨l⟩ false) b) S Q:=fh (B2 h hk) ha hk2
theorem n3(h:dP C f call ⟨l⟩ 0 l [] S (vQ C f id fun S'=>nu (1000+id) (C.jh f id) (C.ki f id) (fun c9=>W C f call b c9 Q) S'))(hk:C.ju f id=none:=by exact rfl)(ha:C.lI f id=[]:=by exact rfl)(hk2:ir C f b=none:=by exact rfl):W C f call (.seq (.region id ⟨l⟩ true) b) S Q:=fh (zn h hk) ha hk2
theorem aG{p:Nat}{K:ah→Prop}{lo xP:List Nat}(k:vM xP K S)(hl:lo=[]:=by exact rfl):nu p lo xP K S:=by subst hl;exact⟨_,rfl,k⟩
theorem aM{p:Nat}{K:ah→Prop}{S':ah}{lo xP:List Nat}(s:Nat)(sl:List Nat)(he:qO p S s=some S')(k:nu p sl xP K S')(hl:lo=s::sl:=by exact rfl):nu p lo xP K S:=by subst hl;obtain⟨c9,h1,h2⟩:=k;exact⟨c9,by simp only[mD,he,GT];exact h1,h2⟩
theorem aic{p s row off:Nat}{id:Id}{r r':List U}{x:Id×Option Rows}{wr:List (Id×Option Rows)}(hs:t s= .mp id row off)(hid:h id=some (some [r]))(hu:bT [p,s] 0 r=(r',x::wr))(Kt:GE s n=true)(hf:fresh h (x::wr)=true):qO p ⟨n,t,h⟩ s=some ⟨n,t,bu h ((id,some [r'])::x::wr)⟩:=by have hs':s<n:=of_decide_eq_true (by simp[GE]at Kt⊢;omega);simp only[qO,hs,hid,hu,List.isEmpty_cons,Bool.false_eq_true,if_false];rw[AC ⟨hs',hf⟩]
theorem aF{K:ah→Prop}{l:List Nat}(k:K S)(hl:l=[]:=by exact rfl):vM l K S:=by subst hl;exact⟨_,rfl,k⟩
theorem Jn{s:Nat}{id:Id}{cells:List U}(hs:t s= .mp id 0 0:=by exact rfl)(hid:h id=some (some [cells]):=by exact rfl)(hi:eu cells=true:=by exact rfl):mb ⟨n,t,h⟩ s=some ⟨n,an t s (.aA cells),an h id (some none)⟩:=by simp only[mb,hs,hid,hi,if_true]
theorem rL{K:ah→Prop}{S':ah}{l:List Nat}(s:Nat)(sl:List Nat)(he:mb S s=some S')(k:vM sl K S')(hl:l=s::sl:=by exact rfl):vM l K S:=by subst hl;obtain⟨c9,h1,h2⟩:=k;exact⟨c9,by simp only[kV,he,GT];exact h1,h2⟩
theorem nl(h:K ks S):dP C f call ops i [] ks S K:=⟨_,rfl,by simpa using h⟩
def oR(ks:List iU):Bool:=ks.all fun k=>k.2.2.isEmpty
theorem qA(iy:List (Nat×Nat)):∀ks:List iU,oR ks=true→oD iy ks=true|[],_=>rfl|x::l,hk=>by simp only[oR,List.all_cons,Hm]at hk;have h1:=qA iy l hk.2;simp only[oD,h1,Bool.and_true,Hc,Bool.or_eq_true];intro y hy;right;have h2:=List.all_eq_true.1 hk.2 y hy;simp only[List.isEmpty_iff]at hk h2;simp[sO,hk.1,h2]
theorem ajL{a b:List iU}(h:oR a=true)(k:oR b=true):oR (a++b)=true:=by simp only[oR,List.all_append,Hm]at*;exact⟨h,k⟩
theorem yh{iy:List (Nat×Nat)}{ks:List iU}(h:oR ks=true:=by repeat'(first|apply ajL|assumption|exact rfl)):oD iy ks=true:=qA iy ks h
theorem AS(a b:List iU):oR (a++b)=(oR a&&oR b):=by simp[oR]
theorem cP{P:ah→Prop}(h:P S)(hf:oD (C.iy f id) ks=true:=by first|exact rfl|exact qA _ _ rfl|(apply qA;simp[AS, *];done)|(apply qA;simp only[AS,Bool.and_eq_true];(repeat' constructor)<;>first|assumption|rfl)):dP C f call ops i [] ks S (vQ C f id P):=⟨_,rfl,by simpa using hf,h⟩
def vP(σ:Type)(C:aL)(f:FuncId)(id:Nat)(draw:Bool)(rep:σ→ah)(x:σ)(ks:List iU)(S:ah):Prop:=(draw=true→oD (C.iy f id) ks=true)∧nu (1000+id) (C.jh f id) (C.ki f id) (fun c9=>dB (C.ju f id) c9=some (rep x)) S
theorem O3{σ:Type}{draw:Bool}{A:Option σ}{qb:σ→Option ρ}(rep:σ→ah)(hF:A.bind qb=some r)(k1:∀x,A=some x→dP C f call ⟨l⟩ 0 l [] S (vP σ C f id draw rep x))(k2:∀x,qb x=some r→Q (.normal,rep x)):sE C f call id ⟨l⟩ draw S Q:=by obtain⟨x,h1,h2⟩:=Ff hF;obtain⟨y,h3,h4,bJ,h5,c9,h6,h7⟩:=k1 x h1;simp only[Hb]at h4;refine⟨rep x, ?_,k2 x h2⟩;simp only[pG,h3,GT];cases draw with|false=>(simp[pq,h5,h6,h7])|true=>simp[h4 rfl,pq,h5,h6,h7]
theorem Mg{σ:Type}{draw:Bool}{A:Option σ}{qb:σ→Option ρ}(rep:σ→ah)(hF:A.bind qb=some r)(k1:∀x,A=some x→dP C f call ⟨l⟩ 0 l [] S (vP σ C f id draw rep x))(k2:∀x,qb x=some r→Q (.normal,rep x))(ha:C.lI f id=[]:=by exact rfl):W C f call (.region id ⟨l⟩ draw) S Q:=w0 (O3 rep hF k1 k2) ha
theorem ez{σ:Type}{draw:Bool}{A:Option σ}{qb:σ→Option ρ}(rep:σ→ah)(hF:A.bind qb=some r)(k1:∀x,A=some x→dP C f call ⟨l⟩ 0 l [] S (vP σ C f id draw rep x))(k2:∀x,qb x=some r→W C f call b (rep x) Q)(ha:C.lI f id=[]:=by exact rfl)(hk2:ir C f b=none:=by exact rfl):W C f call (.seq (.region id ⟨l⟩ draw) b) S Q:=fh (O3 rep hF k1 k2) ha hk2
theorem qK{σ:Type}{rep:σ→ah}{x:σ}(h:nu (1000+id) (C.jh f id) (C.ki f id) (fun c9=>dB (C.ju f id) c9=some (rep x)) S):dP C f call ops i [] ks S (vP σ C f id false rep x):=⟨_,rfl,And.intro (fun e=>Bool.noConfusion e) h⟩
theorem agM{σ:Type}{rep:σ→ah}{x:σ}(h:nu (1000+id) (C.jh f id) (C.ki f id) (fun c9=>dB (C.ju f id) c9=some (rep x)) S)(hf:oD (C.iy f id) ks=true:=by first|exact rfl|exact qA _ _ rfl|(apply qA;simp[AS, *];done)|(apply qA;simp only[AS,Bool.and_eq_true];(repeat' constructor)<;>first|assumption|rfl)):dP C f call ops i [] ks S (vP σ C f id true rep x):=⟨_,rfl,And.intro (fun _=>by simpa using hf) h⟩
theorem b7{σ:Type}{rep:σ→ah}{x:σ}(hc:dB (C.ju f id) S=some (rep x))(hz:C.ki f id=[]:=by exact rfl)(ho:C.jh f id=[]:=by exact rfl):dP C f call ops i [] ks S (vP σ C f id false rep x):=qK (by rw[hz,ho];exact⟨_,rfl,_,rfl,hc⟩)
theorem qJ{σ:Type}{rep:σ→ah}{x:σ}(hc:dB (C.ju f id) S=some (rep x))(hf:oD (C.iy f id) ks=true:=by first|exact rfl|exact qA _ _ rfl|(apply qA;simp[AS, *];done)|(apply qA;simp only[AS,Bool.and_eq_true];(repeat' constructor)<;>first|assumption|rfl))(hz:C.ki f id=[]:=by exact rfl)(ho:C.jh f id=[]:=by exact rfl):dP C f call ops i [] ks S (vP σ C f id true rep x):=agM (by rw[hz,ho];exact⟨_,rfl,_,rfl,hc⟩) hf
variable{d:Nat}{ty:TypeId}{pos:String}{aZ:Array Edge}{bx:Option (Nat×Bool)}{op:Op}{v:U}{g:Bool}
theorem aek(i:Nat)(e:bz)(l:List iU):hkey i e l=hkey i e []++l:=by unfold hkey;split<;>simp
theorem yl{o:Oper}{e:bz}(he:uv C f call S ops o=some e)(hs:(e.dK.all fun x=>decide (x.1<S.n))=true)(k:dP C f call ops (i+1) l (ks++hkey i e []) (S.app e) K):dP C f call ops i (o::l) ks S K:=by obtain⟨x,h1,h2⟩:=k;refine⟨(x.1,hkey i e x.2), ?_, ?_⟩;·{simp only[l9,he,GT];rw[AC hs,h1];rfl};·rw[aek];simpa using h2
theorem lq{d n:Nat}(h:GE d n=true):decide (d<n)=true:=by simp[GE]at h⊢;omega
theorem pp(he:bw C f call ⟨n,t,h⟩ true ⟨some d,op,ty,pos,aZ,none⟩=some ⟨[(d,v)],[],[]⟩)(k:dP C f call ops (i+1) l ks ⟨n,an t d v,h⟩ K)(hs:GE d n=true:=by exact rfl):dP C f call ops i (⟨some d,op,ty,pos,aZ,none⟩::l) ks ⟨n,t,h⟩ K:=yl (e:=⟨[(d,v)],[],[]⟩) he (by simpa using lq hs) (by simpa[hkey,ah.app]using k)
theorem rr{y:Id}{rd:List Id}(he:bw C f call ⟨n,t,h⟩ true ⟨some d,op,ty,pos,aZ,none⟩=some ⟨[(d,v)],y::rd,[]⟩)(k:dP C f call ops (i+1) l (ks++[(i,y::rd,[])]) ⟨n,an t d v,h⟩ K)(hs:GE d n=true:=by exact rfl):dP C f call ops i (⟨some d,op,ty,pos,aZ,none⟩::l) ks ⟨n,t,h⟩ K:=yl (e:=⟨[(d,v)],y::rd,[]⟩) he (by simpa using lq hs) (by simpa[hkey,ah.app]using k)
theorem ww{vb:Option Nat}{dK:List (Nat×U)}{rd:List Id}{x:Id×Option Rows}{wr:List (Id×Option Rows)}(he:bw C f call ⟨n,t,h⟩ true ⟨vb,op,ty,pos,aZ,none⟩=some ⟨dK,rd,x::wr⟩)(k:dP C f call ops (i+1) l (ks++[(i,rd,(x::wr).map (·.1))]) ⟨n,c8 t dK,bu h (x::wr)⟩ K)(hs:(dK.all fun x=>GE x.1 n)=true:=by exact rfl):dP C f call ops i (⟨vb,op,ty,pos,aZ,none⟩::l) ks ⟨n,t,h⟩ K:=yl (e:=⟨dK,rd,x::wr⟩) he (by rw[Hc]at hs⊢;exact fun y hy=>lq (hs y hy)) (by simpa[hkey,ah.app]using k)
theorem au{j:Nat}{wt:Bool}{l0:List Oper}(hg:sY wt ⟨n,t,h⟩ (pF l0 j)=some g)(he:bw C f call ⟨n,t,h⟩ g ⟨some d,op,ty,pos,aZ,some (j,wt)⟩=some ⟨[(d,v)],[],[]⟩)(k:dP C f call ⟨l0⟩ (i+1) l ks ⟨n,an t d (.dw g v),h⟩ K)(hs:GE d n=true:=by exact rfl):dP C f call ⟨l0⟩ i (⟨some d,op,ty,pos,aZ,some (j,wt)⟩::l) ks ⟨n,t,h⟩ K:=yl (e:=⟨[(d, .dw g v)],[],[]⟩) (by rw[FC,hg,Fq,FE,he];rfl) (by simpa using lq hs) (by simpa[hkey,ah.app]using k)
theorem Mi{j:Nat}{wt:Bool}{l0:List Oper}{y:Id}{rd:List Id}(hg:sY wt ⟨n,t,h⟩ (pF l0 j)=some g)(he:bw C f call ⟨n,t,h⟩ g ⟨some d,op,ty,pos,aZ,some (j,wt)⟩=some ⟨[(d,v)],y::rd,[]⟩)(k:dP C f call ⟨l0⟩ (i+1) l (ks++[(i,y::rd,[])]) ⟨n,an t d (.dw g v),h⟩ K)(hs:GE d n=true:=by exact rfl):dP C f call ⟨l0⟩ i (⟨some d,op,ty,pos,aZ,some (j,wt)⟩::l) ks ⟨n,t,h⟩ K:=yl (e:=⟨[(d, .dw g v)],y::rd,[]⟩) (by rw[FC,hg,Fq,FE,he];rfl) (by simpa using lq hs) (by simpa[hkey,ah.app]using k)
theorem pt{j:Nat}{wt:Bool}{l0:List Oper}(hg:sY wt ⟨n,t,h⟩ (pF l0 j)=some true)(he:bw C f call ⟨n,t,h⟩ true ⟨some d,op,ty,pos,aZ,some (j,wt)⟩=some ⟨[(d,v)],[],[]⟩)(k:dP C f call ⟨l0⟩ (i+1) l ks ⟨n,an t d (.dw true v),h⟩ K)(hs:GE d n=true:=by exact rfl):dP C f call ⟨l0⟩ i (⟨some d,op,ty,pos,aZ,some (j,wt)⟩::l) ks ⟨n,t,h⟩ K:=au hg he k hs
theorem D6{j:Nat}{wt:Bool}{l0:List Oper}{y:Id}{rd:List Id}(hg:sY wt ⟨n,t,h⟩ (pF l0 j)=some true)(he:bw C f call ⟨n,t,h⟩ true ⟨some d,op,ty,pos,aZ,some (j,wt)⟩=some ⟨[(d,v)],y::rd,[]⟩)(k:dP C f call ⟨l0⟩ (i+1) l (ks++[(i,y::rd,[])]) ⟨n,an t d (.dw true v),h⟩ K)(hs:GE d n=true:=by exact rfl):dP C f call ⟨l0⟩ i (⟨some d,op,ty,pos,aZ,some (j,wt)⟩::l) ks ⟨n,t,h⟩ K:=Mi hg he k hs
theorem EA{j:Nat}{wt:Bool}{l0:List Oper}{dK:List (Nat×U)}{rd:List Id}{x:Id×Option Rows}{wr:List (Id×Option Rows)}{vb:Option Nat}(hg:sY wt ⟨n,t,h⟩ (pF l0 j)=some true)(he:bw C f call ⟨n,t,h⟩ true ⟨vb,op,ty,pos,aZ,some (j,wt)⟩=some ⟨dK,rd,x::wr⟩)(k:dP C f call ⟨l0⟩ (i+1) l (ks++[(i,rd,(x::wr).map (·.1))]) ⟨n,c8 t dK,bu h (x::wr)⟩ K)(hs:(dK.all fun x=>GE x.1 n)=true:=by exact rfl):dP C f call ⟨l0⟩ i (⟨vb,op,ty,pos,aZ,some (j,wt)⟩::l) ks ⟨n,t,h⟩ K:=yl (e:=⟨dK,rd,x::wr⟩) (by rw[FC,hg,Fq,FE,he];rfl) (by rw[Hc]at hs⊢;exact fun y hy=>lq (hs y hy)) (by simpa[hkey,ah.app]using k)
theorem gf{wt:Bool}{d:Nat}{u:U}{vb:Option Nat}(hd:vb=some d:=by exact rfl)(h:S.t d= .dw false u:=by exact rfl):sY wt S vb=some false:=by subst hd;rw[Qx,h];cases u with|val v=>(cases v<;>simp[zJ])|_=>rfl
theorem no{d:Nat}{j:Nat}{wt:Bool}{l0:List Oper}(k:∀u ks',oR ks'=true→dP C f call ⟨l0⟩ (i+1) l (ks++ks') ⟨n,an t d (.dw false u),h⟩ K)(hg:sY wt ⟨n,t,h⟩ (pF l0 j)=some false:=by first|exact gf|exact rfl)(hs:GE d n=true:=by exact rfl):dP C f call ⟨l0⟩ i (⟨some d,op,ty,pos,aZ,some (j,wt)⟩::l) ks ⟨n,t,h⟩ K:=by have hj:∀(v:U)(rd:List Id),uv C f call ⟨n,t,h⟩ ⟨l0⟩ ⟨some d,op,ty,pos,aZ,some (j,wt)⟩=some ⟨[(d, .dw false v)],rd,[]⟩→dP C f call ⟨l0⟩ i (⟨some d,op,ty,pos,aZ,some (j,wt)⟩::l) ks ⟨n,t,h⟩ K:=fun v rd he=>yl he (by simpa using lq hs) (by have:=k v (hkey i ⟨[(d, .dw false v)],rd,[]⟩ []) (by unfold hkey oR;split<;>simp);simpa[ah.app,c8]using this);rw[FC,hg,Fq,FE]at hj;cases he:bw C f call ⟨n,t,h⟩ false ⟨some d,op,ty,pos,aZ,some (j,wt)⟩with|none=>(exact hj .bB [] (by rw[he];rfl))|some e=>obtain⟨dK,rd,wr⟩:=e;cases wr with|cons x wr=>(exact hj .bB [] (by rw[he];rfl))|nil=>rcases My he with⟨v,hv⟩|⟨hv,_⟩;·{simp only[put]at hv;subst hv;exact hj v rd (by rw[he];rfl)};·exact absurd rfl hv
theorem di{A B:Option ρ}{d:Nat}{p:Bool}(hF:(if p=true then A else B)=some r)(h1:A=some r→dP C f call ops i l ks ⟨n,an t d (.val (.bool true)),h⟩ K)(h2:B=some r→dP C f call ops i l ks ⟨n,an t d (.val (.bool false)),h⟩ K)(hd:t d= .val (.bool p):=by exact rfl):dP C f call ops i l ks ⟨n,t,h⟩ K:=by have e:∀q,t d= .val (.bool q)→an t d (.val (.bool q))=t:=fun q hq=>by{funext j;unfold an;split;·{rename_i hj;subst hj;exact hq.symm};·rfl};cases p with|true=>(have:=h1 (by simpa using hF);rwa[e _ hd]at this)|false=>have:=h2 (by simpa using hF);rwa[e _ hd]at this
theorem oU{A B:Option ρ}{d:Nat}{p:Bool}(hF:(if p=true then A else B)=some r)(h1:A=some r→dP C f call ops i l ks ⟨n,an t d (.dw true (.val (.bool true))),h⟩ K)(h2:B=some r→dP C f call ops i l ks ⟨n,an t d (.dw true (.val (.bool false))),h⟩ K)(hd:t d= .dw true (.val (.bool p)):=by exact rfl):dP C f call ops i l ks ⟨n,t,h⟩ K:=by have e:∀q,t d= .dw true (.val (.bool q))→an t d (.dw true (.val (.bool q)))=t:=fun q hq=>by{funext j;unfold an;split;·{rename_i hj;subst hj;exact hq.symm};·rfl};cases p with|true=>(have:=h1 (by simpa using hF);rwa[e _ hd]at this)|false=>have:=h2 (by simpa using hF);rwa[e _ hd]at this
end
end
end Go.Ab
