import Derived.Test.YtbbhbdlljfffdaaGreatDoorAbFn
import Derived.Test.YtbbhbdlljfffdaaGreatDoorAbSimp
open List renaming nil_append→Ha,all_eq_true→Hc
open Nat renaming blt→GE
open Option renaming bind_some→GT,map_some→Hb
set_option linter.all false
namespace Go.Ab
open Go
abbrev eV:=FuncId→List U→Option (U×List U)
abbrev cn(n:Int):Int:=IntKind.i64.wrap n
def idx{α:Type}(l:List α)(i:Int):Option α:=if 0≤i then l[i.toNat]? else none
theorem CU{α β:Type}{c:α→β}{l:List α}{i:Int}{x:α}(h:idx l i=some x):idx (l.map c) i=some (c x):=by unfold idx at*;split at h;·{rw[AC ‹_›];simp[h]};·cases h
theorem mb{α:Type}{l:List α}{i:Int}{x:α}(h:idx l i=some x):l[i.toNat]? =some x:=by unfold idx at h;split at h;·{exact h};·cases h
theorem wK{α:Type}{l:List α}{i:Int}{x:α}(h:idx l i=some x):0≤i∧i<(l.length:Nat):=by unfold idx at h;split at h;·{rename_i hp;refine⟨hp, ?_⟩;rcases Nat.lt_or_ge i.toNat l.length with h'|h';·{omega};·rw[List.getElem?_eq_none h']at h;cases h};·cases h
theorem yG{α β:Type}{o:Option α}{k:α→Option β}{r:β}(h:o.bind k=some r):∃x,o=some x∧k x=some r:=Option.bind_eq_some_iff.1 h
theorem bb{α β:Type}{o:Option α}{k:α→Option β}{r:β}{G:Prop}(h:o.bind k=some r)(g:∀x,o=some x→k x=some r→G):G:=by obtain⟨x,h1,h2⟩:=yG h;exact g x h1 h2
def W(C:aB)(f:FuncId)(call:eV)(c:Code)(S:ah)(Q:Exit×ah→Prop):Prop:=∃x,bI C f call iy c S=some x∧Q x
theorem ar{P:Prop}(h:P:=by exact rfl):P:=h
def c4(C:aB)(f:FuncId)(call:eV)(ops:Array Oper)(i:Nat)(l:List Oper)(ks:List gS)(S:ah)(Q:List gS→ah→Prop):Prop:=∃x,jB C f call ops i l S=some x∧Q (ks++x.2) x.1
/-! ### Loops -/
inductive cV(σ cC:Type)where|next(s:σ)|out(x:cC)
inductive dy(cC ρ:Type)where|jx(x:cC)|ret(r:ρ)
def LoopN{σ cC:Type}(step:σ→Option (cV σ cC)):Nat→σ→Option cC|0,_=>none|m+1,s=>(step s).bind fun y=>match y with| .next s'=>LoopN step m s'| .out x=>some x
class kU where
 bu:∀{σ cC:Type},(σ→Option (cV σ cC))→σ→Option cC
 ok:∀{σ cC:Type}{step:σ→Option (cV σ cC)}{s:σ}{x:cC},bu step s=some x→∃m,LoopN step m s=some x
@[reducible]def jh:kU:=⟨fun step s=>LoopN step 100000 s,fun h=>⟨100000,h⟩⟩
def Loop [kU]{σ cC:Type}(step:σ→Option (cV σ cC))(s:σ):Option cC:=kU.bu step s
theorem LL [kU]{σ cC:Type}{step:σ→Option (cV σ cC)}{s:σ}{x:cC}(h:Loop step s=some x):∃m,LoopN step m s=some x:=kU.ok h
section
variable{C:aB}{f:FuncId}{call:eV}{S:ah}{n:Nat}{t:Nat→U}{h:Id→Option (Option Rows)}
variable{Q:Exit×ah→Prop}{a b c:Code}{ρ:Type}{r:ρ}{l:List Oper}{id k:Nat}
/-! ### Code -/
def yp(C:aB)(f:FuncId)(call:eV)(b:Code)(Q:Exit×ah→Prop)(x:Exit×ah):Prop:=match x.1 with| .normal=>∃S',dj (fN C f b) x.2=some S'∧W C f call b S' Q|_=>Q x
theorem sq(h:W C f call a S (yp C f call b Q)):W C f call (.seq a b) S Q:=by obtain⟨⟨e,s⟩,h1,h2⟩:=h;cases e with|normal=>(obtain⟨S',h5,y,h3,h4⟩:=h2;exact⟨y,by simp only[bI,h1,GT,h5,h3],h4⟩)|_=>exact⟨_,by simp only[bI,h1,GT],h2⟩
theorem aS(h:W C f call b S Q)(hk:fN C f b=none:=by exact rfl):yp C f call b Q (.normal,S):=⟨S,by rw[hk];rfl,h⟩
theorem aH(h:Q (.ret,S)):yp C f call b Q (.ret,S):=h
theorem fL(h:Q (.exit k,S)):yp C f call b Q (.exit k,S):=h
theorem cd{x:Operand}{p:Bool}{A B:Option ρ}(hF:(if p=true then A else B)=some r)(h1:A=some r→W C f call a S Q)(h2:B=some r→W C f call b S Q)(hc:un true (S.get C x)= .val (.bool p):=by exact rfl):W C f call (.cond x a b) S Q:=by cases p with|true=>(obtain⟨y,h3,h4⟩:=h1 (by simpa using hF);exact⟨y,by simp only[bI,hc];simpa using h3,h4⟩)|false=>obtain⟨y,h3,h4⟩:=h2 (by simpa using hF);exact⟨y,by simp only[bI,hc];simpa using h3,h4⟩
theorem Pd{x:Operand}(h1:W C f call a S Q)(hc:un true (S.get C x)= .val (.bool true):=by exact rfl):W C f call (.cond x a b) S Q:=by obtain⟨y,h3,h4⟩:=h1;exact⟨y,by simp only[bI,hc];simpa using h3,h4⟩
theorem Pc{x:Operand}(h1:W C f call b S Q)(hc:un true (S.get C x)= .val (.bool false):=by exact rfl):W C f call (.cond x a b) S Q:=by obtain⟨y,h3,h4⟩:=h1;exact⟨y,by simp only[bI,hc];simpa using h3,h4⟩
theorem sk(h:Q (.normal,S)):W C f call .skip S Q:=⟨_,rfl,h⟩
theorem rt(h:Q (.ret,S)):W C f call .ret S Q:=⟨_,rfl,h⟩
theorem ex(h:Q (.exit k,S)):W C f call (.exit k) S Q:=⟨_,rfl,h⟩
def mD(C:aB)(f:FuncId)(k:Nat)(Q:Exit×ah→Prop)(x:Exit×ah):Prop:=match x.1 with| .normal=>∃S',dj (C.lT f k) x.2=some S'∧Q (.normal,S')| .exit j=>if j=k then∃S',dj (C.lT f k) x.2=some S'∧Q (.normal,S')else Q (.exit j,x.2)|_=>Q x
theorem cE(h:W C f call c S (mD C f k Q)):W C f call (.block k c) S Q:=by obtain⟨⟨e,s⟩,h1,h2⟩:=h;cases e with|normal=>(obtain⟨S',h3,h4⟩:=h2;exact⟨_,by simp only[bI,h1,GT,h3,Hb],h4⟩)|exit j=>(simp only[mD]at h2;split at h2;·{rename_i hj;obtain⟨S',h3,h4⟩:=h2;exact⟨_,by simp only[bI,h1,GT,hj,if_true,h3,Hb],h4⟩};·rename_i hj;exact⟨_,by simp only[bI,h1,GT,hj,if_false],h2⟩)|_=>exact⟨_,by simp only[bI,h1,GT],h2⟩
theorem bD(h:Q (.normal,S))(hk:C.lT f k=none:=by exact rfl):mD C f k Q (.normal,S):=⟨S,by rw[hk];rfl,h⟩
theorem aR(h:Q (.ret,S)):mD C f k Q (.ret,S):=h
theorem Ed(h:Q (.normal,S))(hk:C.lT f k=none:=by exact rfl):mD C f k Q (.exit k,S):=by simp only[mD,if_true];exact⟨S,by rw[hk];rfl,h⟩
theorem XH{j:Nat}(h:Q (.exit j,S))(hj:Nat.beq j k=false:=by exact rfl):mD C f k Q (.exit j,S):=by have:j≠k:=fun e=>by{subst e;simp at hj};simpa[mD,this]using h
/-! ### Places where the state is told anew -/
theorem Kj{S':ah}(hc:dj (C.lT f k) S=some S')(h:Q (.normal,S')):mD C f k Q (.exit k,S):=by simp only[mD,if_true];exact⟨S',hc,h⟩
def yo(σ:Type)(o:Option (Bool×List Nat))(rep:σ→ah)(lM:σ→Option ρ)(r:ρ)(Q:Exit×ah→Prop)(x:Exit×ah):Prop:=match x.1 with| .normal=>∃s,dj o x.2=some (rep s)∧lM s=some r|_=>Q x
theorem er{σ:Type}(rep:σ→ah)(lM:σ→Option ρ)(ha:W C f call a S (yo σ (fN C f b) rep lM r Q))(hk:∀s,lM s=some r→W C f call b (rep s) Q):W C f call (.seq a b) S Q:=by refine sq ?_;obtain⟨⟨e,s⟩,h1,h2⟩:=ha;refine⟨_,h1, ?_⟩;cases e with|normal=>(obtain⟨s,h3,h4⟩:=h2;exact⟨_,h3,hk s h4⟩)|_=>exact h2
theorem bz{σ:Type}{o:Option (Bool×List Nat)}{rep:σ→ah}{lM:σ→Option ρ}(s:σ)(hF:lM s=some r)(hc:dj o S=some (rep s)):yo σ o rep lM r Q (.normal,S):=⟨s,hc,hF⟩
theorem jl{σ:Type}{o:Option (Bool×List Nat)}{rep:σ→ah}{lM:σ→Option ρ}(h:Q (.ret,S)):yo σ o rep lM r Q (.ret,S):=h
theorem XI{σ:Type}{o:Option (Bool×List Nat)}{rep:σ→ah}{lM:σ→Option ρ}(h:Q (.exit k,S)):yo σ o rep lM r Q (.exit k,S):=h
section
variable{σ:Type}{rep:σ→ah}{lM:σ→Option ρ}
end
/-! ### Regions -/
section
variable{K:List gS→ah→Prop}{ops:Array Oper}{i:Nat}{ks:List gS}
def oe(C:aB)(f:FuncId)(call:eV)(id:Nat)(ops:Array Oper)(draw:Bool)(S:ah)(Q:Exit×ah→Prop):Prop:=∃S',(lX C f call id ops draw S).bind (lU C f id)=some S'∧Q (.normal,S')
def qO(C:aB)(f:FuncId)(id:Nat)(P:ah→Prop)(ks:List gS)(S:ah):Prop:=p7 (C.iV f id) ks=true∧P S
def qL(l:List Nat)(K:ah→Prop)(S:ah):Prop:=∃S',iJ l S=some S'∧K S'
def kS(p:Nat)(lo r9:List Nat)(K:ah→Prop)(S:ah):Prop:=∃S',jL p lo S=some S'∧qL r9 K S'
theorem w0{ops:Array Oper}{mI:Bool}(h:oe C f call id ops mI S Q)(ha:C.jC f id=[]:=by exact rfl):W C f call (.region id ops mI) S Q:=by obtain⟨S',h1,h2⟩:=h;exact⟨_,by simp[bI,ha,iJ,h1],h2⟩
theorem Ll{ops:Array Oper}{mI:Bool}(h:qL (C.jC f id) (fun eG=>oe C f call id ops mI eG Q) S):W C f call (.region id ops mI) S Q:=by obtain⟨eG,h0,S',h1,h2⟩:=h;exact⟨_,by simp[bI,h0,h1],h2⟩
theorem iQ{ops:Array Oper}{mI:Bool}(h:oe C f call id ops mI S fun x=>W C f call b x.2 Q)(ha:C.jC f id=[])(hk2:fN C f b=none):W C f call (.seq (.region id ops mI) b) S Q:=sq (w0 (by obtain⟨S',h1,h2⟩:=h;exact⟨S',h1,aS h2 hk2⟩) ha)
theorem uH{ops:Array Oper}{mI:Bool}(h:qL (C.jC f id) (fun eG=>oe C f call id ops mI eG fun x=>W C f call b x.2 Q) S)(hk2:fN C f b=none:=by exact rfl):W C f call (.seq (.region id ops mI) b) S Q:=sq (Ll (by obtain⟨eG,h0,S',h1,h2⟩:=h;exact⟨eG,h0,S',h1,aS h2 hk2⟩))
theorem GQ(h:c4 C f call ⟨l⟩ 0 l [] S fun _ S'=>Q (.normal,S'))(hk:C.gY f id=none:=by exact rfl)(hz:C.iK f id=[]:=by exact rfl)(ho:C.gO f id=[]:=by exact rfl):oe C f call id ⟨l⟩ false S Q:=by obtain⟨x,h1,h2⟩:=h;exact⟨_,by simp[lX,h1,hk,dj,lU,hz,ho,iJ,jL],h2⟩
theorem GR(h:c4 C f call ⟨l⟩ 0 l [] S (qO C f id fun S'=>Q (.normal,S')))(hk:C.gY f id=none:=by exact rfl)(hz:C.iK f id=[]:=by exact rfl)(ho:C.gO f id=[]:=by exact rfl):oe C f call id ⟨l⟩ true S Q:=by obtain⟨x,h1,h2,h3⟩:=h;simp only[Ha]at h2;exact⟨_,by simp[lX,h1,h2,hk,dj,lU,hz,ho,iJ,jL],h3⟩
theorem vl(h:c4 C f call ⟨l⟩ 0 l [] S fun _ S'=>kS (1000+id) (C.gO f id) (C.iK f id) (fun cA=>Q (.normal,cA)) S')(hk:C.gY f id=none:=by exact rfl):oe C f call id ⟨l⟩ false S Q:=by obtain⟨x,h1,aZ,h0,cA,h2,h3⟩:=h;exact⟨_,by simp[lX,h1,hk,dj,lU,h0,h2],h3⟩
theorem s6(h:c4 C f call ⟨l⟩ 0 l [] S (qO C f id fun S'=>kS (1000+id) (C.gO f id) (C.iK f id) (fun cA=>Q (.normal,cA)) S'))(hk:C.gY f id=none:=by exact rfl):oe C f call id ⟨l⟩ true S Q:=by obtain⟨x,h1,h4,aZ,h0,cA,h2,h3⟩:=h;simp only[Ha]at h4;exact⟨_,by simp[lX,h1,h4,hk,dj,lU,h0,h2],h3⟩
theorem rg(h:c4 C f call ⟨l⟩ 0 l [] S fun _ S'=>Q (.normal,S'))(hk:C.gY f id=none:=by exact rfl)(hz:C.iK f id=[]:=by exact rfl)(ho:C.gO f id=[]:=by exact rfl)(ha:C.jC f id=[]:=by exact rfl):W C f call (.region id ⟨l⟩ false) S Q:=w0 (GQ h hk hz ho) ha
theorem KF(h:c4 C f call ⟨l⟩ 0 l [] S (qO C f id fun S'=>Q (.normal,S')))(hk:C.gY f id=none:=by exact rfl)(hz:C.iK f id=[]:=by exact rfl)(ho:C.gO f id=[]:=by exact rfl)(ha:C.jC f id=[]:=by exact rfl):W C f call (.region id ⟨l⟩ true) S Q:=w0 (GR h hk hz ho) ha
theorem ag(h:c4 C f call ⟨l⟩ 0 l [] S fun _ S'=>W C f call b S' Q)(hk:C.gY f id=none:=by exact rfl)(hz:C.iK f id=[]:=by exact rfl)(ho:C.gO f id=[]:=by exact rfl)(ha:C.jC f id=[]:=by exact rfl)(hk2:fN C f b=none:=by exact rfl):W C f call (.seq (.region id ⟨l⟩ false) b) S Q:=iQ (GQ h hk hz ho) ha hk2
theorem jq(h:c4 C f call ⟨l⟩ 0 l [] S (qO C f id fun S'=>W C f call b S' Q))(hk:C.gY f id=none:=by exact rfl)(hz:C.iK f id=[]:=by exact rfl)(ho:C.gO f id=[]:=by exact rfl)(ha:C.jC f id=[]:=by exact rfl)(hk2:fN C f b=none:=by exact rfl):W C f call (.seq (.region id ⟨l⟩ true) b) S Q:=iQ (GR h hk hz ho) ha hk2
theorem ez(h:c4 C f call ⟨l⟩ 0 l [] S fun _ S'=>kS (1000+id) (C.gO f id) (C.iK f id) (fun cA=>Q (.normal,cA)) S')(hk:C.gY f id=none:=by exact rfl)(ha:C.jC f id=[]:=by exact rfl):W C f call (.region id ⟨l⟩ false) S Q:=w0 (vl h hk) ha
theorem Eo(h:c4 C f call ⟨l⟩ 0 l [] S (qO C f id fun S'=>kS (1000+id) (C.gO f id) (C.iK f id) (fun cA=>Q (.normal,cA)) S'))(hk:C.gY f id=none:=by exact rfl)(ha:C.jC f id=[]:=by exact rfl):W C f call (.region id ⟨l⟩ true) S Q:=w0 (s6 h hk) ha
theorem bg(h:c4 C f call ⟨l⟩ 0 l [] S fun _ S'=>kS (1000+id) (C.gO f id) (C.iK f id) (fun cA=>W C f call b cA Q) S')(hk:C.gY f id=none:=by exact rfl)(ha:C.jC f id=[]:=by exact rfl)(hk2:fN C f b=none:=by exact rfl):W C f call (.seq (.region id ⟨l⟩ false) b) S Q:=iQ (vl h hk) ha hk2
theorem kO(h:c4 C f call ⟨l⟩ 0 l [] S (qO C f id fun S'=>kS (1000+id) (C.gO f id) (C.iK f id) (fun cA=>W C f call b cA Q) S'))(hk:C.gY f id=none:=by exact rfl)(ha:C.jC f id=[]:=by exact rfl)(hk2:fN C f b=none:=by exact rfl):W C f call (.seq (.region id ⟨l⟩ true) b) S Q:=iQ (s6 h hk) ha hk2
theorem ay{p:Nat}{K:ah→Prop}{lo r9:List Nat}(k:qL r9 K S)(hl:lo=[]:=by exact rfl):kS p lo r9 K S:=by subst hl;exact⟨_,rfl,k⟩
theorem az{p:Nat}{K:ah→Prop}{S':ah}{lo r9:List Nat}(s:Nat)(sl:List Nat)(he:nh p S s=some S')(k:kS p sl r9 K S')(hl:lo=s::sl:=by exact rfl):kS p lo r9 K S:=by subst hl;obtain⟨cA,h1,h2⟩:=k;exact⟨cA,by simp only[jL,he,GT];exact h1,h2⟩
theorem WM{p s row off:Nat}{id:Id}{r r':List U}{x:Id×Option Rows}{wr:List (Id×Option Rows)}(hs:t s= .mp id row off)(hid:h id=some (some [r]))(hu:bw [p,s] 0 r=(r',x::wr))(CI:GE s n=true)(hf:fresh h (x::wr)=true):nh p ⟨n,t,h⟩ s=some ⟨n,t,aQ h ((id,some [r'])::x::wr)⟩:=by have hs':s<n:=of_decide_eq_true (by simp[GE]at CI⊢;omega);simp only[nh,hs,hid,hu,List.isEmpty_cons,Bool.false_eq_true,if_false];rw[AC ⟨hs',hf⟩]
theorem ax{K:ah→Prop}{l:List Nat}(k:K S)(hl:l=[]:=by exact rfl):qL l K S:=by subst hl;exact⟨_,rfl,k⟩
theorem rm{K:ah→Prop}{S':ah}{l:List Nat}(s:Nat)(sl:List Nat)(he:kC S s=some S')(k:qL sl K S')(hl:l=s::sl:=by exact rfl):qL l K S:=by subst hl;obtain⟨cA,h1,h2⟩:=k;exact⟨cA,by simp only[iJ,he,GT];exact h1,h2⟩
theorem nl(h:K ks S):c4 C f call ops i [] ks S K:=⟨_,rfl,by simpa using h⟩
def uA(ks:List gS):Bool:=ks.all fun k=>k.2.2.isEmpty
theorem Kp(a b:List gS):uA (a++b)=(uA a&&uA b):=by simp[uA]
theorem dO{P:ah→Prop}(h:P S)(hf:p7 (C.iV f id) ks=true:=by first|exact rfl|exact Ig _ _ rfl|(apply Ig;simp[Kp, *];done)|(apply Ig;simp only[Kp,Bool.and_eq_true];(repeat' constructor)<;>first|assumption|rfl)):c4 C f call ops i [] ks S (qO C f id P):=⟨_,rfl,by simpa using hf,h⟩
def yj(σ:Type)(C:aB)(f:FuncId)(id:Nat)(draw:Bool)(rep:σ→ah)(x:σ)(ks:List gS)(S:ah):Prop:=(draw=true→p7 (C.iV f id) ks=true)∧kS (1000+id) (C.gO f id) (C.iK f id) (fun cA=>dj (C.gY f id) cA=some (rep x)) S
theorem PX{σ:Type}{draw:Bool}{A:Option σ}{pz:σ→Option ρ}(rep:σ→ah)(hF:A.bind pz=some r)(k1:∀x,A=some x→c4 C f call ⟨l⟩ 0 l [] S (yj σ C f id draw rep x))(k2:∀x,pz x=some r→Q (.normal,rep x)):oe C f call id ⟨l⟩ draw S Q:=by obtain⟨x,h1,h2⟩:=yG hF;obtain⟨y,h3,h4,aZ,h5,cA,h6,h7⟩:=k1 x h1;simp only[Ha]at h4;refine⟨rep x, ?_,k2 x h2⟩;simp only[lX,h3,GT];cases draw with|false=>(simp[lU,h5,h6,h7])|true=>simp[h4 rfl,lU,h5,h6,h7]
theorem en{σ:Type}{draw:Bool}{A:Option σ}{pz:σ→Option ρ}(rep:σ→ah)(hF:A.bind pz=some r)(k1:∀x,A=some x→c4 C f call ⟨l⟩ 0 l [] S (yj σ C f id draw rep x))(k2:∀x,pz x=some r→W C f call b (rep x) Q)(ha:C.jC f id=[]:=by exact rfl)(hk2:fN C f b=none:=by exact rfl):W C f call (.seq (.region id ⟨l⟩ draw) b) S Q:=iQ (PX rep hF k1 k2) ha hk2
theorem nc{σ:Type}{rep:σ→ah}{x:σ}(h:kS (1000+id) (C.gO f id) (C.iK f id) (fun cA=>dj (C.gY f id) cA=some (rep x)) S):c4 C f call ops i [] ks S (yj σ C f id false rep x):=⟨_,rfl,And.intro (fun e=>Bool.noConfusion e) h⟩
theorem bH{σ:Type}{rep:σ→ah}{x:σ}(hc:dj (C.gY f id) S=some (rep x))(hz:C.iK f id=[]:=by exact rfl)(ho:C.gO f id=[]:=by exact rfl):c4 C f call ops i [] ks S (yj σ C f id false rep x):=nc (by rw[hz,ho];exact⟨_,rfl,_,rfl,hc⟩)
variable{d:Nat}{ty:TypeId}{pos:String}{aM:Array Edge}{bp:Option (Nat×Bool)}{op:Op}{v:U}{g:Bool}
theorem Ts(i:Nat)(e:aT)(l:List gS):hkey i e l=hkey i e []++l:=by unfold hkey;split<;>simp
theorem sy{o:Oper}{e:aT}(he:pR C f call S ops o=some e)(hs:(e.cO.all fun x=>decide (x.1<S.n))=true)(k:c4 C f call ops (i+1) l (ks++hkey i e []) (S.app e) K):c4 C f call ops i (o::l) ks S K:=by obtain⟨x,h1,h2⟩:=k;refine⟨(x.1,hkey i e x.2), ?_, ?_⟩;·{simp only[jB,he,GT];rw[AC hs,h1];rfl};·rw[Ts];simpa using h2
theorem kz{d n:Nat}(h:GE d n=true):decide (d<n)=true:=by simp[GE]at h⊢;omega
theorem pp(he:bn C f call ⟨n,t,h⟩ true ⟨some d,op,ty,pos,aM,none⟩=some ⟨[(d,v)],[],[]⟩)(k:c4 C f call ops (i+1) l ks ⟨n,ai t d v,h⟩ K)(hs:GE d n=true:=by exact rfl):c4 C f call ops i (⟨some d,op,ty,pos,aM,none⟩::l) ks ⟨n,t,h⟩ K:=sy (e:=⟨[(d,v)],[],[]⟩) he (by simpa using kz hs) (by simpa[hkey,ah.app]using k)
theorem rr{y:Id}{rd:List Id}(he:bn C f call ⟨n,t,h⟩ true ⟨some d,op,ty,pos,aM,none⟩=some ⟨[(d,v)],y::rd,[]⟩)(k:c4 C f call ops (i+1) l (ks++[(i,y::rd,[])]) ⟨n,ai t d v,h⟩ K)(hs:GE d n=true:=by exact rfl):c4 C f call ops i (⟨some d,op,ty,pos,aM,none⟩::l) ks ⟨n,t,h⟩ K:=sy (e:=⟨[(d,v)],y::rd,[]⟩) he (by simpa using kz hs) (by simpa[hkey,ah.app]using k)
theorem ww{qs:Option Nat}{cO:List (Nat×U)}{rd:List Id}{x:Id×Option Rows}{wr:List (Id×Option Rows)}(he:bn C f call ⟨n,t,h⟩ true ⟨qs,op,ty,pos,aM,none⟩=some ⟨cO,rd,x::wr⟩)(k:c4 C f call ops (i+1) l (ks++[(i,rd,(x::wr).map (·.1))]) ⟨n,cv t cO,aQ h (x::wr)⟩ K)(hs:(cO.all fun x=>GE x.1 n)=true:=by exact rfl):c4 C f call ops i (⟨qs,op,ty,pos,aM,none⟩::l) ks ⟨n,t,h⟩ K:=sy (e:=⟨cO,rd,x::wr⟩) he (by rw[Hc]at hs⊢;exact fun y hy=>kz (hs y hy)) (by simpa[hkey,ah.app]using k)
theorem au{j:Nat}{wt:Bool}{l0:List Oper}(hg:oD wt ⟨n,t,h⟩ (lW l0 j)=some g)(he:bn C f call ⟨n,t,h⟩ g ⟨some d,op,ty,pos,aM,some (j,wt)⟩=some ⟨[(d,v)],[],[]⟩)(k:c4 C f call ⟨l0⟩ (i+1) l ks ⟨n,ai t d (.cF g v),h⟩ K)(hs:GE d n=true:=by exact rfl):c4 C f call ⟨l0⟩ i (⟨some d,op,ty,pos,aM,some (j,wt)⟩::l) ks ⟨n,t,h⟩ K:=sy (e:=⟨[(d, .cF g v)],[],[]⟩) (by rw[yZ,hg,yO,y3,he];rfl) (by simpa using kz hs) (by simpa[hkey,ah.app]using k)
theorem X0{j:Nat}{wt:Bool}{l0:List Oper}{y:Id}{rd:List Id}(hg:oD wt ⟨n,t,h⟩ (lW l0 j)=some g)(he:bn C f call ⟨n,t,h⟩ g ⟨some d,op,ty,pos,aM,some (j,wt)⟩=some ⟨[(d,v)],y::rd,[]⟩)(k:c4 C f call ⟨l0⟩ (i+1) l (ks++[(i,y::rd,[])]) ⟨n,ai t d (.cF g v),h⟩ K)(hs:GE d n=true:=by exact rfl):c4 C f call ⟨l0⟩ i (⟨some d,op,ty,pos,aM,some (j,wt)⟩::l) ks ⟨n,t,h⟩ K:=sy (e:=⟨[(d, .cF g v)],y::rd,[]⟩) (by rw[yZ,hg,yO,y3,he];rfl) (by simpa using kz hs) (by simpa[hkey,ah.app]using k)
theorem pt{j:Nat}{wt:Bool}{l0:List Oper}(hg:oD wt ⟨n,t,h⟩ (lW l0 j)=some true)(he:bn C f call ⟨n,t,h⟩ true ⟨some d,op,ty,pos,aM,some (j,wt)⟩=some ⟨[(d,v)],[],[]⟩)(k:c4 C f call ⟨l0⟩ (i+1) l ks ⟨n,ai t d (.cF true v),h⟩ K)(hs:GE d n=true:=by exact rfl):c4 C f call ⟨l0⟩ i (⟨some d,op,ty,pos,aM,some (j,wt)⟩::l) ks ⟨n,t,h⟩ K:=au hg he k hs
theorem Aq{j:Nat}{wt:Bool}{l0:List Oper}{y:Id}{rd:List Id}(hg:oD wt ⟨n,t,h⟩ (lW l0 j)=some true)(he:bn C f call ⟨n,t,h⟩ true ⟨some d,op,ty,pos,aM,some (j,wt)⟩=some ⟨[(d,v)],y::rd,[]⟩)(k:c4 C f call ⟨l0⟩ (i+1) l (ks++[(i,y::rd,[])]) ⟨n,ai t d (.cF true v),h⟩ K)(hs:GE d n=true:=by exact rfl):c4 C f call ⟨l0⟩ i (⟨some d,op,ty,pos,aM,some (j,wt)⟩::l) ks ⟨n,t,h⟩ K:=X0 hg he k hs
theorem x5{j:Nat}{wt:Bool}{l0:List Oper}{cO:List (Nat×U)}{rd:List Id}{x:Id×Option Rows}{wr:List (Id×Option Rows)}{qs:Option Nat}(hg:oD wt ⟨n,t,h⟩ (lW l0 j)=some true)(he:bn C f call ⟨n,t,h⟩ true ⟨qs,op,ty,pos,aM,some (j,wt)⟩=some ⟨cO,rd,x::wr⟩)(k:c4 C f call ⟨l0⟩ (i+1) l (ks++[(i,rd,(x::wr).map (·.1))]) ⟨n,cv t cO,aQ h (x::wr)⟩ K)(hs:(cO.all fun x=>GE x.1 n)=true:=by exact rfl):c4 C f call ⟨l0⟩ i (⟨qs,op,ty,pos,aM,some (j,wt)⟩::l) ks ⟨n,t,h⟩ K:=sy (e:=⟨cO,rd,x::wr⟩) (by rw[yZ,hg,yO,y3,he];rfl) (by rw[Hc]at hs⊢;exact fun y hy=>kz (hs y hy)) (by simpa[hkey,ah.app]using k)
theorem gf{wt:Bool}{d:Nat}{u:U}{qs:Option Nat}(hd:qs=some d:=by exact rfl)(h:S.t d= .cF false u:=by exact rfl):oD wt S qs=some false:=by subst hd;rw[HP,h];cases u with|val v=>(cases v<;>simp[tn])|_=>rfl
theorem no{d:Nat}{j:Nat}{wt:Bool}{l0:List Oper}(k:∀u ks',uA ks'=true→c4 C f call ⟨l0⟩ (i+1) l (ks++ks') ⟨n,ai t d (.cF false u),h⟩ K)(hg:oD wt ⟨n,t,h⟩ (lW l0 j)=some false:=by first|exact gf|exact rfl)(hs:GE d n=true:=by exact rfl):c4 C f call ⟨l0⟩ i (⟨some d,op,ty,pos,aM,some (j,wt)⟩::l) ks ⟨n,t,h⟩ K:=by have hj:∀(v:U)(rd:List Id),pR C f call ⟨n,t,h⟩ ⟨l0⟩ ⟨some d,op,ty,pos,aM,some (j,wt)⟩=some ⟨[(d, .cF false v)],rd,[]⟩→c4 C f call ⟨l0⟩ i (⟨some d,op,ty,pos,aM,some (j,wt)⟩::l) ks ⟨n,t,h⟩ K:=fun v rd he=>sy he (by simpa using kz hs) (by have:=k v (hkey i ⟨[(d, .cF false v)],rd,[]⟩ []) (by unfold hkey uA;split<;>simp);simpa[ah.app,cv]using this);rw[yZ,hg,yO,y3]at hj;cases he:bn C f call ⟨n,t,h⟩ false ⟨some d,op,ty,pos,aM,some (j,wt)⟩with|none=>(exact hj .aU [] (by rw[he];rfl))|some e=>obtain⟨cO,rd,wr⟩:=e;cases wr with|cons x wr=>(exact hj .aU [] (by rw[he];rfl))|nil=>rcases EB he with⟨v,hv⟩|⟨hv,_⟩;·{simp only[put]at hv;subst hv;exact hj v rd (by rw[he];rfl)};·exact absurd rfl hv
theorem di{A B:Option ρ}{d:Nat}{p:Bool}(hF:(if p=true then A else B)=some r)(h1:A=some r→c4 C f call ops i l ks ⟨n,ai t d (.val (.bool true)),h⟩ K)(h2:B=some r→c4 C f call ops i l ks ⟨n,ai t d (.val (.bool false)),h⟩ K)(hd:t d= .val (.bool p):=by exact rfl):c4 C f call ops i l ks ⟨n,t,h⟩ K:=by have e:∀q,t d= .val (.bool q)→ai t d (.val (.bool q))=t:=fun q hq=>by{funext j;unfold ai;split;·{rename_i hj;subst hj;exact hq.symm};·rfl};cases p with|true=>(have:=h1 (by simpa using hF);rwa[e _ hd]at this)|false=>have:=h2 (by simpa using hF);rwa[e _ hd]at this
theorem mw{A B:Option ρ}{d:Nat}{p:Bool}(hF:(if p=true then A else B)=some r)(h1:A=some r→c4 C f call ops i l ks ⟨n,ai t d (.cF true (.val (.bool true))),h⟩ K)(h2:B=some r→c4 C f call ops i l ks ⟨n,ai t d (.cF true (.val (.bool false))),h⟩ K)(hd:t d= .cF true (.val (.bool p)):=by exact rfl):c4 C f call ops i l ks ⟨n,t,h⟩ K:=by have e:∀q,t d= .cF true (.val (.bool q))→ai t d (.cF true (.val (.bool q)))=t:=fun q hq=>by{funext j;unfold ai;split;·{rename_i hj;subst hj;exact hq.symm};·rfl};cases p with|true=>(have:=h1 (by simpa using hF);rwa[e _ hd]at this)|false=>have:=h2 (by simpa using hF);rwa[e _ hd]at this
end
end
end Go.Ab
