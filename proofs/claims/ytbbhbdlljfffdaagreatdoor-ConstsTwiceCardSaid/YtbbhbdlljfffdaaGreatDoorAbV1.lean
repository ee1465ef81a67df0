import Derived.Test.YtbbhbdlljfffdaaGreatDoorAbFn
import Derived.Test.YtbbhbdlljfffdaaGreatDoorAbSimp
open Classical renaming choose_spec→Hc
open List renaming nil_append→Hb,all_eq_true→Hk
open Nat renaming blt→GE
open Option renaming bind_some→GT,bind_eq_some_iff→Ha,map_some→Hd
set_option linter.all false
namespace Go.Ab
open Go
abbrev eT:=FuncId→List U→Option (U×List U)
abbrev aU(n:Int):Int:=IntKind.i64.wrap n
def idx{α:Type}(l:List α)(i:Int):Option α:=if 0≤i then l[i.toNat]? else none
theorem Fg{α β:Type}{c:α→β}{l:List α}{i:Int}{x:α}(h:idx l i=some x):idx (l.map c) i=some (c x):=by unfold idx at*;split at h;·{rw[AC ‹_›];simp[h]};·cases h
theorem gK{α:Type}{l:List α}{i:Int}{x:α}(h:idx l i=some x):l[i.toNat]? =some x:=by unfold idx at h;split at h;·{exact h};·cases h
theorem yE{α:Type}{l:List α}{i:Int}{x:α}(h:idx l i=some x):0≤i∧i<(l.length:Nat):=by unfold idx at h;split at h;·{rename_i hp;refine⟨hp, ?_⟩;rcases Nat.lt_or_ge i.toNat l.length with h'|h';·{omega};·rw[List.getElem?_eq_none h']at h;cases h};·cases h
theorem AD{α β:Type}{o:Option α}{k:α→Option β}{r:β}(h:o.bind k=some r):∃x,o=some x∧k x=some r:=Option.bind_eq_some_iff.1 h
theorem bb{α β:Type}{o:Option α}{k:α→Option β}{r:β}{G:Prop}(h:o.bind k=some r)(g:∀x,o=some x→k x=some r→G):G:=by obtain⟨x,h1,h2⟩:=AD h;exact g x h1 h2
def W(C:av)(f:FuncId)(call:eT)(c:Code)(S:ah)(Q:Exit×ah→Prop):Prop:=∃x,bL C f call iC c S=some x∧Q x
theorem ar{P:Prop}(h:P:=by exact rfl):P:=h
def cR(C:av)(f:FuncId)(call:eT)(ops:Array Oper)(i:Nat)(l:List Oper)(ks:List gV)(S:ah)(Q:List gV→ah→Prop):Prop:=∃x,jw C f call ops i l S=some x∧Q (ks++x.2) x.1
/-! ### Loops -/
inductive cn(σ bH:Type)where|next(s:σ)|out(x:bH)
inductive cO(bH ρ:Type)where|fV(x:bH)|ret(r:ρ)
def LoopN{σ bH:Type}(step:σ→Option (cn σ bH)):Nat→σ→Option bH|0,_=>none|m+1,s=>(step s).bind fun y=>match y with| .next s'=>LoopN step m s'| .out x=>some x
open Classical in noncomputable def wU{σ bH:Type}(step:σ→Option (cn σ bH))(s:σ):Option bH:=if h:∃x m,LoopN step m s=some x then some (Classical.choose h)else none
theorem CK{σ bH:Type}{step:σ→Option (cn σ bH)}:∀{m:Nat}{s:σ}{x:bH}(k:Nat),LoopN step m s=some x→LoopN step (m+k) s=some x|0,_,_,_,h=>by{simp[LoopN]at h}|m+1,s,x,k,h=>by rw[Nat.add_right_comm];simp only[LoopN,Ha]at h⊢;obtain⟨y,h1,h2⟩:=h;refine⟨y,h1, ?_⟩;cases y with|next s'=>(exact CK k h2)|out x=>exact h2
theorem Ov{σ bH:Type}{step:σ→Option (cn σ bH)}{m m':Nat}{s:σ}{x y:bH}(h1:LoopN step m s=some x)(h2:LoopN step m' s=some y):x=y:=by have e1:=CK m' h1;have e2:=CK m h2;rw[Nat.add_comm]at e2;rw[e1]at e2;exact Option.some.inj e2
theorem Ou{σ bH:Type}{step:σ→Option (cn σ bH)}{s:σ}{x:bH}(h:wU step s=some x):∃m,LoopN step m s=some x:=by unfold wU at h;split at h;·{rename_i hx;simp only[Option.some.injEq]at h;subst h;exact Hc hx};·cases h
class ju where
 bk:∀{σ bH:Type},(σ→Option (cn σ bH))→σ→Option bH
 ok:∀{σ bH:Type}{step:σ→Option (cn σ bH)}{s:σ}{x:bH},bk step s=some x→∃m,LoopN step m s=some x
noncomputable instance Yv:ju:=⟨wU,Ou⟩
@[reducible]def LO:ju:=⟨fun step s=>LoopN step 100000 s,fun h=>⟨100000,h⟩⟩
def Loop [ju]{σ bH:Type}(step:σ→Option (cn σ bH))(s:σ):Option bH:=ju.bk step s
theorem CL [ju]{σ bH:Type}{step:σ→Option (cn σ bH)}{s:σ}{x:bH}(h:Loop step s=some x):∃m,LoopN step m s=some x:=ju.ok h
theorem CN{σ bH:Type}{step:σ→Option (cn σ bH)}{m:Nat}{s:σ}{x:bH}(h:LoopN step m s=some x):Loop step s=some x:=by show wU step s=some x;unfold wU;have hx:∃x m,LoopN step m s=some x:=⟨x,m,h⟩;rw[dif_pos hx];obtain⟨m',h'⟩:=Hc hx;rw[Ov h' h]
theorem p7{σ bH:Type}(step:σ→Option (cn σ bH))(s:σ):Loop step s=(step s).bind fun y=>match y with| .next s'=>Loop step s'| .out x=>some x:=by apply Option.ext;intro x;constructor;·{intro h;obtain⟨m,h⟩:=CL h;cases m with|zero=>(simp[LoopN]at h)|succ m=>simp only[LoopN,Ha]at h⊢;obtain⟨y,h1,h2⟩:=h;refine⟨y,h1, ?_⟩;cases y with|next s'=>(exact CN h2)|out x=>exact h2};·intro h;simp only[Ha]at h;obtain⟨y,h1,h2⟩:=h;cases y with|next s'=>(obtain⟨m,h3⟩:=CL h2;exact CN (m:=m+1) (by simp only[LoopN,h1,GT,h3]))|out x=>exact CN (m:=1) (by simp only[LoopN,h1,GT];exact h2)
section
variable{C:av}{f:FuncId}{call:eT}{S:ah}{n:Nat}{t:Nat→U}{h:Id→Option (Option Rows)}
variable{Q:Exit×ah→Prop}{a b c:Code}{ρ:Type}{r:ρ}{l:List Oper}{id k:Nat}
/-! ### Code -/
def Ak(C:av)(f:FuncId)(call:eT)(b:Code)(Q:Exit×ah→Prop)(x:Exit×ah):Prop:=match x.1 with| .normal=>∃S',c7 (fK C f b) x.2=some S'∧W C f call b S' Q|_=>Q x
theorem sq(h:W C f call a S (Ak C f call b Q)):W C f call (.seq a b) S Q:=by obtain⟨⟨e,s⟩,h1,h2⟩:=h;cases e with|normal=>(obtain⟨S',h5,y,h3,h4⟩:=h2;exact⟨y,by simp only[bL,h1,GT,h5,h3],h4⟩)|_=>exact⟨_,by simp only[bL,h1,GT],h2⟩
theorem aH(h:W C f call b S Q)(hk:fK C f b=none:=by exact rfl):Ak C f call b Q (.normal,S):=⟨S,by rw[hk];rfl,h⟩
theorem aA(h:Q (.ret,S)):Ak C f call b Q (.ret,S):=h
theorem fI(h:Q (.exit k,S)):Ak C f call b Q (.exit k,S):=h
theorem cd{x:Operand}{p:Bool}{A B:Option ρ}(hF:(if p=true then A else B)=some r)(h1:A=some r→W C f call a S Q)(h2:B=some r→W C f call b S Q)(hc:un true (S.get C x)= .val (.bool p):=by exact rfl):W C f call (.cond x a b) S Q:=by cases p with|true=>(obtain⟨y,h3,h4⟩:=h1 (by simpa using hF);exact⟨y,by simp only[bL,hc];simpa using h3,h4⟩)|false=>obtain⟨y,h3,h4⟩:=h2 (by simpa using hF);exact⟨y,by simp only[bL,hc];simpa using h3,h4⟩
theorem Sk{x:Operand}(h1:W C f call a S Q)(hc:un true (S.get C x)= .val (.bool true):=by exact rfl):W C f call (.cond x a b) S Q:=by obtain⟨y,h3,h4⟩:=h1;exact⟨y,by simp only[bL,hc];simpa using h3,h4⟩
theorem Sj{x:Operand}(h1:W C f call b S Q)(hc:un true (S.get C x)= .val (.bool false):=by exact rfl):W C f call (.cond x a b) S Q:=by obtain⟨y,h3,h4⟩:=h1;exact⟨y,by simp only[bL,hc];simpa using h3,h4⟩
theorem sk(h:Q (.normal,S)):W C f call .skip S Q:=⟨_,rfl,h⟩
theorem rt(h:Q (.ret,S)):W C f call .ret S Q:=⟨_,rfl,h⟩
theorem ex(h:Q (.exit k,S)):W C f call (.exit k) S Q:=⟨_,rfl,h⟩
def mJ(C:av)(f:FuncId)(k:Nat)(Q:Exit×ah→Prop)(x:Exit×ah):Prop:=match x.1 with| .normal=>∃S',c7 (C.lT f k) x.2=some S'∧Q (.normal,S')| .exit j=>if j=k then∃S',c7 (C.lT f k) x.2=some S'∧Q (.normal,S')else Q (.exit j,x.2)|_=>Q x
theorem cC(h:W C f call c S (mJ C f k Q)):W C f call (.block k c) S Q:=by obtain⟨⟨e,s⟩,h1,h2⟩:=h;cases e with|normal=>(obtain⟨S',h3,h4⟩:=h2;exact⟨_,by simp only[bL,h1,GT,h3,Hd],h4⟩)|exit j=>(simp only[mJ]at h2;split at h2;·{rename_i hj;obtain⟨S',h3,h4⟩:=h2;exact⟨_,by simp only[bL,h1,GT,hj,if_true,h3,Hd],h4⟩};·rename_i hj;exact⟨_,by simp only[bL,h1,GT,hj,if_false],h2⟩)|_=>exact⟨_,by simp only[bL,h1,GT],h2⟩
theorem bA(h:Q (.normal,S))(hk:C.lT f k=none:=by exact rfl):mJ C f k Q (.normal,S):=⟨S,by rw[hk];rfl,h⟩
theorem aE(h:Q (.ret,S)):mJ C f k Q (.ret,S):=h
theorem Ce(h:Q (.normal,S))(hk:C.lT f k=none:=by exact rfl):mJ C f k Q (.exit k,S):=by simp only[mJ,if_true];exact⟨S,by rw[hk];rfl,h⟩
theorem abe{j:Nat}(h:Q (.exit j,S))(hj:Nat.beq j k=false:=by exact rfl):mJ C f k Q (.exit j,S):=by have:j≠k:=fun e=>by{subst e;simp at hj};simpa[mJ,this]using h
/-! ### Places where the state is told anew -/
theorem MJ{S':ah}(hc:c7 (C.lT f k) S=some S')(h:Q (.normal,S')):mJ C f k Q (.exit k,S):=by simp only[mJ,if_true];exact⟨S',hc,h⟩
def Aj(σ:Type)(o:Option (Bool×List Nat))(rep:σ→ah)(lK:σ→Option ρ)(r:ρ)(Q:Exit×ah→Prop)(x:Exit×ah):Prop:=match x.1 with| .normal=>∃s,c7 o x.2=some (rep s)∧lK s=some r|_=>Q x
theorem fk{σ:Type}(rep:σ→ah)(lK:σ→Option ρ)(ha:W C f call a S (Aj σ (fK C f b) rep lK r Q))(hk:∀s,lK s=some r→W C f call b (rep s) Q):W C f call (.seq a b) S Q:=by refine sq ?_;obtain⟨⟨e,s⟩,h1,h2⟩:=ha;refine⟨_,h1, ?_⟩;cases e with|normal=>(obtain⟨s,h3,h4⟩:=h2;exact⟨_,h3,hk s h4⟩)|_=>exact h2
theorem bS{σ:Type}{o:Option (Bool×List Nat)}{rep:σ→ah}{lK:σ→Option ρ}(s:σ)(hF:lK s=some r)(hc:c7 o S=some (rep s)):Aj σ o rep lK r Q (.normal,S):=⟨s,hc,hF⟩
theorem nx{σ:Type}{o:Option (Bool×List Nat)}{rep:σ→ah}{lK:σ→Option ρ}(h:Q (.ret,S)):Aj σ o rep lK r Q (.ret,S):=h
theorem abh{σ:Type}{o:Option (Bool×List Nat)}{rep:σ→ah}{lK:σ→Option ρ}(h:Q (.exit k,S)):Aj σ o rep lK r Q (.exit k,S):=h
section
variable{σ:Type}{rep:σ→ah}{lK:σ→Option ρ}
end
/-! ### Regions -/
section
variable{K:List gV→ah→Prop}{ops:Array Oper}{i:Nat}{ks:List gV}
def oG(C:av)(f:FuncId)(call:eT)(id:Nat)(ops:Array Oper)(draw:Bool)(S:ah)(Q:Exit×ah→Prop):Prop:=∃S',(lY C f call id ops draw S).bind (lU C f id)=some S'∧Q (.normal,S')
def rL(C:av)(f:FuncId)(id:Nat)(P:ah→Prop)(ks:List gV)(S:ah):Prop:=qD (C.jb f id) ks=true∧P S
def rI(l:List Nat)(K:ah→Prop)(S:ah):Prop:=∃S',iP l S=some S'∧K S'
def kW(p:Nat)(lo td:List Nat)(K:ah→Prop)(S:ah):Prop:=∃S',jI p lo S=some S'∧rI td K S'
theorem w0{ops:Array Oper}{mU:Bool}(h:oG C f call id ops mU S Q)(ha:C.jy f id=[]:=by exact rfl):W C f call (.region id ops mU) S Q:=by obtain⟨S',h1,h2⟩:=h;exact⟨_,by simp[bL,ha,iP,h1],h2⟩
theorem ac9{ops:Array Oper}{mU:Bool}(h:rI (C.jy f id) (fun eD=>oG C f call id ops mU eD Q) S):W C f call (.region id ops mU) S Q:=by obtain⟨eD,h0,S',h1,h2⟩:=h;exact⟨_,by simp[bL,h0,h1],h2⟩
theorem eO{ops:Array Oper}{mU:Bool}(h:oG C f call id ops mU S fun x=>W C f call b x.2 Q)(ha:C.jy f id=[])(hk2:fK C f b=none):W C f call (.seq (.region id ops mU) b) S Q:=sq (w0 (by obtain⟨S',h1,h2⟩:=h;exact⟨S',h1,aH h2 hk2⟩) ha)
theorem abY{ops:Array Oper}{mU:Bool}(h:rI (C.jy f id) (fun eD=>oG C f call id ops mU eD fun x=>W C f call b x.2 Q) S)(hk2:fK C f b=none:=by exact rfl):W C f call (.seq (.region id ops mU) b) S Q:=sq (ac9 (by obtain⟨eD,h0,S',h1,h2⟩:=h;exact⟨eD,h0,S',h1,aH h2 hk2⟩))
theorem IY(h:cR C f call ⟨l⟩ 0 l [] S fun _ S'=>Q (.normal,S'))(hk:C.gZ f id=none:=by exact rfl)(hz:C.iQ f id=[]:=by exact rfl)(ho:C.gP f id=[]:=by exact rfl):oG C f call id ⟨l⟩ false S Q:=by obtain⟨x,h1,h2⟩:=h;exact⟨_,by simp[lY,h1,hk,c7,lU,hz,ho,iP,jI],h2⟩
theorem IZ(h:cR C f call ⟨l⟩ 0 l [] S (rL C f id fun S'=>Q (.normal,S')))(hk:C.gZ f id=none:=by exact rfl)(hz:C.iQ f id=[]:=by exact rfl)(ho:C.gP f id=[]:=by exact rfl):oG C f call id ⟨l⟩ true S Q:=by obtain⟨x,h1,h2,h3⟩:=h;simp only[Hb]at h2;exact⟨_,by simp[lY,h1,h2,hk,c7,lU,hz,ho,iP,jI],h3⟩
theorem DC(h:cR C f call ⟨l⟩ 0 l [] S fun _ S'=>kW (1000+id) (C.gP f id) (C.iQ f id) (fun cr=>Q (.normal,cr)) S')(hk:C.gZ f id=none:=by exact rfl):oG C f call id ⟨l⟩ false S Q:=by obtain⟨x,h1,aT,h0,cr,h2,h3⟩:=h;exact⟨_,by simp[lY,h1,hk,c7,lU,h0,h2],h3⟩
theorem I1(h:cR C f call ⟨l⟩ 0 l [] S (rL C f id fun S'=>kW (1000+id) (C.gP f id) (C.iQ f id) (fun cr=>Q (.normal,cr)) S'))(hk:C.gZ f id=none:=by exact rfl):oG C f call id ⟨l⟩ true S Q:=by obtain⟨x,h1,h4,aT,h0,cr,h2,h3⟩:=h;simp only[Hb]at h4;exact⟨_,by simp[lY,h1,h4,hk,c7,lU,h0,h2],h3⟩
theorem rg(h:cR C f call ⟨l⟩ 0 l [] S fun _ S'=>Q (.normal,S'))(hk:C.gZ f id=none:=by exact rfl)(hz:C.iQ f id=[]:=by exact rfl)(ho:C.gP f id=[]:=by exact rfl)(ha:C.jy f id=[]:=by exact rfl):W C f call (.region id ⟨l⟩ false) S Q:=w0 (IY h hk hz ho) ha
theorem Ck(h:cR C f call ⟨l⟩ 0 l [] S (rL C f id fun S'=>Q (.normal,S')))(hk:C.gZ f id=none:=by exact rfl)(hz:C.iQ f id=[]:=by exact rfl)(ho:C.gP f id=[]:=by exact rfl)(ha:C.jy f id=[]:=by exact rfl):W C f call (.region id ⟨l⟩ true) S Q:=w0 (IZ h hk hz ho) ha
theorem ag(h:cR C f call ⟨l⟩ 0 l [] S fun _ S'=>W C f call b S' Q)(hk:C.gZ f id=none:=by exact rfl)(hz:C.iQ f id=[]:=by exact rfl)(ho:C.gP f id=[]:=by exact rfl)(ha:C.jy f id=[]:=by exact rfl)(hk2:fK C f b=none:=by exact rfl):W C f call (.seq (.region id ⟨l⟩ false) b) S Q:=eO (IY h hk hz ho) ha hk2
theorem jq(h:cR C f call ⟨l⟩ 0 l [] S (rL C f id fun S'=>W C f call b S' Q))(hk:C.gZ f id=none:=by exact rfl)(hz:C.iQ f id=[]:=by exact rfl)(ho:C.gP f id=[]:=by exact rfl)(ha:C.jy f id=[]:=by exact rfl)(hk2:fK C f b=none:=by exact rfl):W C f call (.seq (.region id ⟨l⟩ true) b) S Q:=eO (IZ h hk hz ho) ha hk2
theorem v8(h:cR C f call ⟨l⟩ 0 l [] S fun _ S'=>kW (1000+id) (C.gP f id) (C.iQ f id) (fun cr=>Q (.normal,cr)) S')(hk:C.gZ f id=none:=by exact rfl)(ha:C.jy f id=[]:=by exact rfl):W C f call (.region id ⟨l⟩ false) S Q:=w0 (DC h hk) ha
theorem GC(h:cR C f call ⟨l⟩ 0 l [] S (rL C f id fun S'=>kW (1000+id) (C.gP f id) (C.iQ f id) (fun cr=>Q (.normal,cr)) S'))(hk:C.gZ f id=none:=by exact rfl)(ha:C.jy f id=[]:=by exact rfl):W C f call (.region id ⟨l⟩ true) S Q:=w0 (I1 h hk) ha
theorem dn(h:cR C f call ⟨l⟩ 0 l [] S fun _ S'=>kW (1000+id) (C.gP f id) (C.iQ f id) (fun cr=>W C f call b cr Q) S')(hk:C.gZ f id=none:=by exact rfl)(ha:C.jy f id=[]:=by exact rfl)(hk2:fK C f b=none:=by exact rfl):W C f call (.seq (.region id ⟨l⟩ false) b) S Q:=eO (DC h hk) ha hk2
theorem nB(h:cR C f call ⟨l⟩ 0 l [] S (rL C f id fun S'=>kW (1000+id) (C.gP f id) (C.iQ f id) (fun cr=>W C f call b cr Q) S'))(hk:C.gZ f id=none:=by exact rfl)(ha:C.jy f id=[]:=by exact rfl)(hk2:fK C f b=none:=by exact rfl):W C f call (.seq (.region id ⟨l⟩ true) b) S Q:=eO (I1 h hk) ha hk2
theorem bt{p:Nat}{K:ah→Prop}{lo td:List Nat}(k:rI td K S)(hl:lo=[]:=by exact rfl):kW p lo td K S:=by subst hl;exact⟨_,rfl,k⟩
theorem bE{p:Nat}{K:ah→Prop}{S':ah}{lo td:List Nat}(s:Nat)(sl:List Nat)(he:pN p S s=some S')(k:kW p sl td K S')(hl:lo=s::sl:=by exact rfl):kW p lo td K S:=by subst hl;obtain⟨cr,h1,h2⟩:=k;exact⟨cr,by simp only[jI,he,GT];exact h1,h2⟩
theorem aah{p s row off:Nat}{id:Id}{r r':List U}{x:Id×Option Rows}{wr:List (Id×Option Rows)}(hs:t s= .mp id row off)(hid:h id=some (some [r]))(hu:bl [p,s] 0 r=(r',x::wr))(E5:GE s n=true)(hf:fresh h (x::wr)=true):pN p ⟨n,t,h⟩ s=some ⟨n,t,aI h ((id,some [r'])::x::wr)⟩:=by have hs':s<n:=of_decide_eq_true (by simp[GE]at E5⊢;omega);simp only[pN,hs,hid,hu,List.isEmpty_cons,Bool.false_eq_true,if_false];rw[AC ⟨hs',hf⟩]
theorem bq{K:ah→Prop}{l:List Nat}(k:K S)(hl:l=[]:=by exact rfl):rI l K S:=by subst hl;exact⟨_,rfl,k⟩
theorem D1{s:Nat}{id:Id}{cells:List U}(hs:t s= .mp id 0 0:=by exact rfl)(hid:h id=some (some [cells]):=by exact rfl)(hi:c9 cells=true:=by exact rfl):l5 ⟨n,t,h⟩ s=some ⟨n,ai t s (.ay cells),ai h id (some none)⟩:=by simp only[l5,hs,hid,hi,if_true]
theorem A9{K:ah→Prop}{S':ah}{l:List Nat}(s:Nat)(sl:List Nat)(he:l5 S s=some S')(k:rI sl K S')(hl:l=s::sl:=by exact rfl):rI l K S:=by subst hl;obtain⟨cr,h1,h2⟩:=k;exact⟨cr,by simp only[iP,he,GT];exact h1,h2⟩
theorem nl(h:K ks S):cR C f call ops i [] ks S K:=⟨_,rfl,by simpa using h⟩
def vU(ks:List gV):Bool:=ks.all fun k=>k.2.2.isEmpty
theorem MO(a b:List gV):vU (a++b)=(vU a&&vU b):=by simp[vU]
theorem eo{P:ah→Prop}(h:P S)(hf:qD (C.jb f id) ks=true:=by first|exact rfl|exact Kv _ _ rfl|(apply Kv;simp[MO, *];done)|(apply Kv;simp only[MO,Bool.and_eq_true];(repeat' constructor)<;>first|assumption|rfl)):cR C f call ops i [] ks S (rL C f id P):=⟨_,rfl,by simpa using hf,h⟩
def Ae(σ:Type)(C:av)(f:FuncId)(id:Nat)(draw:Bool)(rep:σ→ah)(x:σ)(ks:List gV)(S:ah):Prop:=(draw=true→qD (C.jb f id) ks=true)∧kW (1000+id) (C.gP f id) (C.iQ f id) (fun cr=>c7 (C.gZ f id) cr=some (rep x)) S
theorem S6{σ:Type}{draw:Bool}{A:Option σ}{p4:σ→Option ρ}(rep:σ→ah)(hF:A.bind p4=some r)(k1:∀x,A=some x→cR C f call ⟨l⟩ 0 l [] S (Ae σ C f id draw rep x))(k2:∀x,p4 x=some r→Q (.normal,rep x)):oG C f call id ⟨l⟩ draw S Q:=by obtain⟨x,h1,h2⟩:=AD hF;obtain⟨y,h3,h4,aT,h5,cr,h6,h7⟩:=k1 x h1;simp only[Hb]at h4;refine⟨rep x, ?_,k2 x h2⟩;simp only[lY,h3,GT];cases draw with|false=>(simp[lU,h5,h6,h7])|true=>simp[h4 rfl,lU,h5,h6,h7]
theorem dZ{σ:Type}{draw:Bool}{A:Option σ}{p4:σ→Option ρ}(rep:σ→ah)(hF:A.bind p4=some r)(k1:∀x,A=some x→cR C f call ⟨l⟩ 0 l [] S (Ae σ C f id draw rep x))(k2:∀x,p4 x=some r→W C f call b (rep x) Q)(ha:C.jy f id=[]:=by exact rfl)(hk2:fK C f b=none:=by exact rfl):W C f call (.seq (.region id ⟨l⟩ draw) b) S Q:=eO (S6 rep hF k1 k2) ha hk2
theorem tj{σ:Type}{rep:σ→ah}{x:σ}(h:kW (1000+id) (C.gP f id) (C.iQ f id) (fun cr=>c7 (C.gZ f id) cr=some (rep x)) S):cR C f call ops i [] ks S (Ae σ C f id false rep x):=⟨_,rfl,And.intro (fun e=>Bool.noConfusion e) h⟩
theorem bF{σ:Type}{rep:σ→ah}{x:σ}(hc:c7 (C.gZ f id) S=some (rep x))(hz:C.iQ f id=[]:=by exact rfl)(ho:C.gP f id=[]:=by exact rfl):cR C f call ops i [] ks S (Ae σ C f id false rep x):=tj (by rw[hz,ho];exact⟨_,rfl,_,rfl,hc⟩)
variable{d:Nat}{ty:TypeId}{pos:String}{aD:Array Edge}{aS:Option (Nat×Bool)}{op:Op}{v:U}{g:Bool}
theorem WH(i:Nat)(e:aJ)(l:List gV):hkey i e l=hkey i e []++l:=by unfold hkey;split<;>simp
theorem tH{o:Oper}{e:aJ}(he:qm C f call S ops o=some e)(hs:(e.cG.all fun x=>decide (x.1<S.n))=true)(k:cR C f call ops (i+1) l (ks++hkey i e []) (S.app e) K):cR C f call ops i (o::l) ks S K:=by obtain⟨x,h1,h2⟩:=k;refine⟨(x.1,hkey i e x.2), ?_, ?_⟩;·{simp only[jw,he,GT];rw[AC hs,h1];rfl};·rw[WH];simpa using h2
theorem jP{d n:Nat}(h:GE d n=true):decide (d<n)=true:=by simp[GE]at h⊢;omega
theorem pp(he:aR C f call ⟨n,t,h⟩ true ⟨some d,op,ty,pos,aD,none⟩=some ⟨[(d,v)],[],[]⟩)(k:cR C f call ops (i+1) l ks ⟨n,ai t d v,h⟩ K)(hs:GE d n=true:=by exact rfl):cR C f call ops i (⟨some d,op,ty,pos,aD,none⟩::l) ks ⟨n,t,h⟩ K:=tH (e:=⟨[(d,v)],[],[]⟩) he (by simpa using jP hs) (by simpa[hkey,ah.app]using k)
theorem rr{y:Id}{rd:List Id}(he:aR C f call ⟨n,t,h⟩ true ⟨some d,op,ty,pos,aD,none⟩=some ⟨[(d,v)],y::rd,[]⟩)(k:cR C f call ops (i+1) l (ks++[(i,y::rd,[])]) ⟨n,ai t d v,h⟩ K)(hs:GE d n=true:=by exact rfl):cR C f call ops i (⟨some d,op,ty,pos,aD,none⟩::l) ks ⟨n,t,h⟩ K:=tH (e:=⟨[(d,v)],y::rd,[]⟩) he (by simpa using jP hs) (by simpa[hkey,ah.app]using k)
theorem ww{q3:Option Nat}{cG:List (Nat×U)}{rd:List Id}{x:Id×Option Rows}{wr:List (Id×Option Rows)}(he:aR C f call ⟨n,t,h⟩ true ⟨q3,op,ty,pos,aD,none⟩=some ⟨cG,rd,x::wr⟩)(k:cR C f call ops (i+1) l (ks++[(i,rd,(x::wr).map (·.1))]) ⟨n,cm t cG,aI h (x::wr)⟩ K)(hs:(cG.all fun x=>GE x.1 n)=true:=by exact rfl):cR C f call ops i (⟨q3,op,ty,pos,aD,none⟩::l) ks ⟨n,t,h⟩ K:=tH (e:=⟨cG,rd,x::wr⟩) he (by rw[Hk]at hs⊢;exact fun y hy=>jP (hs y hy)) (by simpa[hkey,ah.app]using k)
theorem an{j:Nat}{wt:Bool}{l0:List Oper}(hg:oZ wt ⟨n,t,h⟩ (lX l0 j)=some g)(he:aR C f call ⟨n,t,h⟩ g ⟨some d,op,ty,pos,aD,some (j,wt)⟩=some ⟨[(d,v)],[],[]⟩)(k:cR C f call ⟨l0⟩ (i+1) l ks ⟨n,ai t d (.cv g v),h⟩ K)(hs:GE d n=true:=by exact rfl):cR C f call ⟨l0⟩ i (⟨some d,op,ty,pos,aD,some (j,wt)⟩::l) ks ⟨n,t,h⟩ K:=tH (e:=⟨[(d, .cv g v)],[],[]⟩) (by rw[A0,hg,AP,A2,he];rfl) (by simpa using jP hs) (by simpa[hkey,ah.app]using k)
theorem abE{j:Nat}{wt:Bool}{l0:List Oper}{y:Id}{rd:List Id}(hg:oZ wt ⟨n,t,h⟩ (lX l0 j)=some g)(he:aR C f call ⟨n,t,h⟩ g ⟨some d,op,ty,pos,aD,some (j,wt)⟩=some ⟨[(d,v)],y::rd,[]⟩)(k:cR C f call ⟨l0⟩ (i+1) l (ks++[(i,y::rd,[])]) ⟨n,ai t d (.cv g v),h⟩ K)(hs:GE d n=true:=by exact rfl):cR C f call ⟨l0⟩ i (⟨some d,op,ty,pos,aD,some (j,wt)⟩::l) ks ⟨n,t,h⟩ K:=tH (e:=⟨[(d, .cv g v)],y::rd,[]⟩) (by rw[A0,hg,AP,A2,he];rfl) (by simpa using jP hs) (by simpa[hkey,ah.app]using k)
theorem pt{j:Nat}{wt:Bool}{l0:List Oper}(hg:oZ wt ⟨n,t,h⟩ (lX l0 j)=some true)(he:aR C f call ⟨n,t,h⟩ true ⟨some d,op,ty,pos,aD,some (j,wt)⟩=some ⟨[(d,v)],[],[]⟩)(k:cR C f call ⟨l0⟩ (i+1) l ks ⟨n,ai t d (.cv true v),h⟩ K)(hs:GE d n=true:=by exact rfl):cR C f call ⟨l0⟩ i (⟨some d,op,ty,pos,aD,some (j,wt)⟩::l) ks ⟨n,t,h⟩ K:=an hg he k hs
theorem GK{j:Nat}{wt:Bool}{l0:List Oper}{y:Id}{rd:List Id}(hg:oZ wt ⟨n,t,h⟩ (lX l0 j)=some true)(he:aR C f call ⟨n,t,h⟩ true ⟨some d,op,ty,pos,aD,some (j,wt)⟩=some ⟨[(d,v)],y::rd,[]⟩)(k:cR C f call ⟨l0⟩ (i+1) l (ks++[(i,y::rd,[])]) ⟨n,ai t d (.cv true v),h⟩ K)(hs:GE d n=true:=by exact rfl):cR C f call ⟨l0⟩ i (⟨some d,op,ty,pos,aD,some (j,wt)⟩::l) ks ⟨n,t,h⟩ K:=abE hg he k hs
theorem Hx{j:Nat}{wt:Bool}{l0:List Oper}{cG:List (Nat×U)}{rd:List Id}{x:Id×Option Rows}{wr:List (Id×Option Rows)}{q3:Option Nat}(hg:oZ wt ⟨n,t,h⟩ (lX l0 j)=some true)(he:aR C f call ⟨n,t,h⟩ true ⟨q3,op,ty,pos,aD,some (j,wt)⟩=some ⟨cG,rd,x::wr⟩)(k:cR C f call ⟨l0⟩ (i+1) l (ks++[(i,rd,(x::wr).map (·.1))]) ⟨n,cm t cG,aI h (x::wr)⟩ K)(hs:(cG.all fun x=>GE x.1 n)=true:=by exact rfl):cR C f call ⟨l0⟩ i (⟨q3,op,ty,pos,aD,some (j,wt)⟩::l) ks ⟨n,t,h⟩ K:=tH (e:=⟨cG,rd,x::wr⟩) (by rw[A0,hg,AP,A2,he];rfl) (by rw[Hk]at hs⊢;exact fun y hy=>jP (hs y hy)) (by simpa[hkey,ah.app]using k)
theorem gf{wt:Bool}{d:Nat}{u:U}{q3:Option Nat}(hd:q3=some d:=by exact rfl)(h:S.t d= .cv false u:=by exact rfl):oZ wt S q3=some false:=by subst hd;rw[J8,h];cases u with|val v=>(cases v<;>simp[uR])|_=>rfl
theorem no{d:Nat}{j:Nat}{wt:Bool}{l0:List Oper}(k:∀u ks',vU ks'=true→cR C f call ⟨l0⟩ (i+1) l (ks++ks') ⟨n,ai t d (.cv false u),h⟩ K)(hg:oZ wt ⟨n,t,h⟩ (lX l0 j)=some false:=by first|exact gf|exact rfl)(hs:GE d n=true:=by exact rfl):cR C f call ⟨l0⟩ i (⟨some d,op,ty,pos,aD,some (j,wt)⟩::l) ks ⟨n,t,h⟩ K:=by have hj:∀(v:U)(rd:List Id),qm C f call ⟨n,t,h⟩ ⟨l0⟩ ⟨some d,op,ty,pos,aD,some (j,wt)⟩=some ⟨[(d, .cv false v)],rd,[]⟩→cR C f call ⟨l0⟩ i (⟨some d,op,ty,pos,aD,some (j,wt)⟩::l) ks ⟨n,t,h⟩ K:=fun v rd he=>tH he (by simpa using jP hs) (by have:=k v (hkey i ⟨[(d, .cv false v)],rd,[]⟩ []) (by unfold hkey vU;split<;>simp);simpa[ah.app,cm]using this);rw[A0,hg,AP,A2]at hj;cases he:aR C f call ⟨n,t,h⟩ false ⟨some d,op,ty,pos,aD,some (j,wt)⟩with|none=>(exact hj .aK [] (by rw[he];rfl))|some e=>obtain⟨cG,rd,wr⟩:=e;cases wr with|cons x wr=>(exact hj .aK [] (by rw[he];rfl))|nil=>rcases GP he with⟨v,hv⟩|⟨hv,_⟩;·{simp only[put]at hv;subst hv;exact hj v rd (by rw[he];rfl)};·exact absurd rfl hv
theorem di{A B:Option ρ}{d:Nat}{p:Bool}(hF:(if p=true then A else B)=some r)(h1:A=some r→cR C f call ops i l ks ⟨n,ai t d (.val (.bool true)),h⟩ K)(h2:B=some r→cR C f call ops i l ks ⟨n,ai t d (.val (.bool false)),h⟩ K)(hd:t d= .val (.bool p):=by exact rfl):cR C f call ops i l ks ⟨n,t,h⟩ K:=by have e:∀q,t d= .val (.bool q)→ai t d (.val (.bool q))=t:=fun q hq=>by{funext j;unfold ai;split;·{rename_i hj;subst hj;exact hq.symm};·rfl};cases p with|true=>(have:=h1 (by simpa using hF);rwa[e _ hd]at this)|false=>have:=h2 (by simpa using hF);rwa[e _ hd]at this
theorem mC{A B:Option ρ}{d:Nat}{p:Bool}(hF:(if p=true then A else B)=some r)(h1:A=some r→cR C f call ops i l ks ⟨n,ai t d (.cv true (.val (.bool true))),h⟩ K)(h2:B=some r→cR C f call ops i l ks ⟨n,ai t d (.cv true (.val (.bool false))),h⟩ K)(hd:t d= .cv true (.val (.bool p)):=by exact rfl):cR C f call ops i l ks ⟨n,t,h⟩ K:=by have e:∀q,t d= .cv true (.val (.bool q))→ai t d (.cv true (.val (.bool q)))=t:=fun q hq=>by{funext j;unfold ai;split;·{rename_i hj;subst hj;exact hq.symm};·rfl};cases p with|true=>(have:=h1 (by simpa using hF);rwa[e _ hd]at this)|false=>have:=h2 (by simpa using hF);rwa[e _ hd]at this
end
end
end Go.Ab
