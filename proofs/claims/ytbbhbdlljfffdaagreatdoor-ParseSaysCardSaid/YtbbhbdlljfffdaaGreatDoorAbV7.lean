import Derived.Test.YtbbhbdlljfffdaaGreatDoorAbFn
import Derived.Test.YtbbhbdlljfffdaaGreatDoorAbSimp
open Bool renaming false_eq_true->GE,and_eq_true->GT,noConfusion->Nm,and_self->PQ,false_and->Pi
open Classical renaming choose_spec->Lk
open List renaming nil_append->Hk,all_eq_true->Hm,replicate->Hn,foldl->H0,range->H1,map_cons->H2,map_nil->H3,length_drop->H4,take_of_length_le->H5,all_map->IH,drop_zero->If,append_nil->PH,length_cons->Ps,getElem?_cons_zero->QQ,map_append->QR
open Nat renaming blt->Do,ble->Hb,le_of_ble_eq_true->Hc,ble_eq_true_of_le->QP
open Option renaming bind_some->AC,map_some->Ha,bind_eq_some_iff->Hd,map_eq_some_iff->PP,bind->RK
open Option.some renaming inj->Ix,injEq->Kd
set_option linter.all false
namespace Go.Ab
open Go
abbrev eZ:=FuncId->List U->Option (U×List U)
abbrev aO(n:Int):Int:=IntKind.i64.wrap n
def idx{α:Type}(l:List α)(i:Int):Option α:=if 0<=i then l[i.toNat]? else none
theorem JL{α β:Type}{c:α->β}{l:List α}{i:Int}{x:α}(h:idx l i=some x):idx (l.map c) i=some (c x):=by unfold idx at*;split at h;·{rw[if_pos ‹_›];simp[h]};·cases h
theorem td{α:Type}{l:List α}{i:Int}{x:α}(h:idx l i=some x):l[i.toNat]? =some x:=by unfold idx at h;split at h;·{exact h};·cases h
theorem CB{α:Type}{l:List α}{i:Int}{x:α}(h:idx l i=some x):0<=i∧i<(l.length:Nat):=by unfold idx at h;split at h;·{rename_i hp;refine⟨hp, ?_⟩;rcases Nat.lt_or_ge i.toNat l.length with h'|h';·{omega};·rw[List.getElem?_eq_none h']at h;cases h};·cases h
theorem ED{α β:Type}{o:Option α}{k:α->Option β}{r:β}(h:o.bind k=some r):∃x,o=some x∧k x=some r:=Option.bind_eq_some_iff.1 h
theorem bb{α β:Type}{o:Option α}{k:α->Option β}{r:β}{G:Prop}(h:o.bind k=some r)(g:∀x,o=some x->k x=some r->G):G:=by obtain⟨x,h1,h2⟩:=ED h;exact g x h1 h2
def W(C:ax)(f:FuncId)(call:eZ)(c:Code)(S:ah)(Q:Exit×ah->Prop):Prop:=∃x,b7 C f call kf c S=some x∧Q x
theorem ar{P:Prop}(h:P:=by exact rfl):P:=h
def dL(C:ax)(f:FuncId)(call:eZ)(ops:Array Oper)(m:Option (List Nat))(i:Nat)(l:List Oper)(ks:List dJ)(S:ah)(K:List dJ->ah->Prop)(Z:List dJ->nZ->Prop):Prop:=∃x,ie C f call ops m i l S=some x∧match x.1 with| .inl S'=>K (ks++x.2) S'| .inr p=>Z (ks++x.2) p
def xz(_:List dJ)(_:nZ):Prop:=False
abbrev mA(C:ax)(f:FuncId)(call:eZ)(ops:Array Oper)(l:List Oper)(S:ah)(K:List dJ->ah->Prop):Prop:=dL C f call ops none 0 l [] S K xz
theorem yC{C:ax}{f:FuncId}{call:eZ}{ops:Array Oper}{l:List Oper}{S:ah}{K:List dJ->ah->Prop}(h:mA C f call ops l S K):∃x,kE C f call ops 0 l S=some x∧K ([]++x.2) x.1:=by obtain⟨⟨z,ks⟩,h1,h2⟩:=h;cases z with|inl S'=>(exact⟨(S',ks),HW h1,h2⟩)|inr p=>exact h2.elim
/-! ### Loops -/
inductive b6(σ bF:Type)where|next(s:σ)|out(x:bF)
inductive cA(bF ρ:Type)where|dH(x:bF)|ret(r:ρ)
def LoopN{σ bF:Type}(step:σ->Option (b6 σ bF)):Nat->σ->Option bF|0,_=>none|m+1,s=>(step s).bind fun y=>match y with| .next s'=>LoopN step m s'| .out x=>some x
open Classical in noncomputable def A7{σ bF:Type}(step:σ->Option (b6 σ bF))(s:σ):Option bF:=if h:∃x m,LoopN step m s=some x then some (Classical.choose h)else none
theorem GX{σ bF:Type}{step:σ->Option (b6 σ bF)}:∀{m:Nat}{s:σ}{x:bF}(k:Nat),LoopN step m s=some x->LoopN step (m+k) s=some x|0,_,_,_,h=>by{simp[LoopN]at h}|m+1,s,x,k,h=>by rw[Nat.add_right_comm];simp only[LoopN,Hd]at h|-;obtain⟨y,h1,h2⟩:=h;refine⟨y,h1, ?_⟩;cases y with|next s'=>(exact GX k h2)|out x=>exact h2
theorem S5{σ bF:Type}{step:σ->Option (b6 σ bF)}{m m':Nat}{s:σ}{x y:bF}(h1:LoopN step m s=some x)(h2:LoopN step m' s=some y):x=y:=by have e1:=GX m' h1;have e2:=GX m h2;rw[Nat.add_comm]at e2;rw[e1]at e2;exact Ix e2
theorem S4{σ bF:Type}{step:σ->Option (b6 σ bF)}{s:σ}{x:bF}(h:A7 step s=some x):∃m,LoopN step m s=some x:=by unfold A7 at h;split at h;·{rename_i hx;simp only[Kd]at h;subst h;exact Lk hx};·cases h
class ni where
 bI:∀{σ bF:Type},(σ->Option (b6 σ bF))->σ->Option bF
 ok:∀{σ bF:Type}{step:σ->Option (b6 σ bF)}{s:σ}{x:bF},bI step s=some x->∃m,LoopN step m s=some x
noncomputable instance acZ:ni:=⟨A7,S4⟩
def Loop [ni]{σ bF:Type}(step:σ->Option (b6 σ bF))(s:σ):Option bF:=ni.bI step s
theorem En [ni]{σ bF:Type}{step:σ->Option (b6 σ bF)}{s:σ}{x:bF}(h:Loop step s=some x):∃m,LoopN step m s=some x:=ni.ok h
theorem GY{σ bF:Type}{step:σ->Option (b6 σ bF)}{m:Nat}{s:σ}{x:bF}(h:LoopN step m s=some x):Loop step s=some x:=by show A7 step s=some x;unfold A7;have hx:∃x m,LoopN step m s=some x:=⟨x,m,h⟩;rw[dif_pos hx];obtain⟨m',h'⟩:=Lk hx;rw[S5 h' h]
theorem cO{σ bF:Type}(step:σ->Option (b6 σ bF))(s:σ):Loop step s=(step s).bind fun y=>match y with| .next s'=>Loop step s'| .out x=>some x:=by apply Option.ext;intro x;constructor;·{intro h;obtain⟨m,h⟩:=En h;cases m with|zero=>(simp[LoopN]at h)|succ m=>simp only[LoopN,Hd]at h|-;obtain⟨y,h1,h2⟩:=h;refine⟨y,h1, ?_⟩;cases y with|next s'=>(exact GY h2)|out x=>exact h2};·intro h;simp only[Hd]at h;obtain⟨y,h1,h2⟩:=h;cases y with|next s'=>(obtain⟨m,h3⟩:=En h2;exact GY (m:=m+1) (by simp only[LoopN,h1,AC,h3]))|out x=>exact GY (m:=1) (by simp only[LoopN,h1,AC];exact h2)
section
variable{C:ax}{f:FuncId}{call:eZ}{S:ah}{n:Nat}{t:Nat->U}{h:Id->Option (Option Rows)}
variable{Q:Exit×ah->Prop}{a b c:Code}{ρ:Type}{r:ρ}{l:List Oper}{id k:Nat}
/-! ### Code -/
def Bc(C:ax)(f:FuncId)(call:eZ)(b:Code)(Q:Exit×ah->Prop)(x:Exit×ah):Prop:=match x.1 with| .normal=>∃S',dX (je C f b) x.2=some S'∧W C f call b S' Q|_=>Q x
theorem sq(h:W C f call a S (Bc C f call b Q)):W C f call (.seq a b) S Q:=by obtain⟨⟨e,s⟩,h1,h2⟩:=h;cases e with|normal=>(obtain⟨S',h5,y,h3,h4⟩:=h2;exact⟨y,by simp only[b7,h1,AC,h5,h3],h4⟩)|_=>exact⟨_,by simp only[b7,h1,AC],h2⟩
theorem aB(h:W C f call b S Q)(hk:je C f b=none:=by exact rfl):Bc C f call b Q (.normal,S):=⟨S,by rw[hk];rfl,h⟩
theorem aS(h:Q (.ret,S)):Bc C f call b Q (.ret,S):=h
theorem e7(h:Q (.exit k,S)):Bc C f call b Q (.exit k,S):=h
theorem cd{x:Operand}{p:Bool}{A B:Option ρ}(hF:(if p=true then A else B)=some r)(h1:A=some r->W C f call a S Q)(h2:B=some r->W C f call b S Q)(hc:un true (S.get C x)= .val (.bool p):=by exact rfl):W C f call (.cond x a b) S Q:=by cases p with|true=>(obtain⟨y,h3,h4⟩:=h1 (by simpa using hF);exact⟨y,by simp only[b7,hc];simpa using h3,h4⟩)|false=>obtain⟨y,h3,h4⟩:=h2 (by simpa using hF);exact⟨y,by simp only[b7,hc];simpa using h3,h4⟩
theorem WX{x:Operand}(h1:W C f call a S Q)(hc:un true (S.get C x)= .val (.bool true):=by exact rfl):W C f call (.cond x a b) S Q:=by obtain⟨y,h3,h4⟩:=h1;exact⟨y,by simp only[b7,hc];simpa using h3,h4⟩
theorem WW{x:Operand}(h1:W C f call b S Q)(hc:un true (S.get C x)= .val (.bool false):=by exact rfl):W C f call (.cond x a b) S Q:=by obtain⟨y,h3,h4⟩:=h1;exact⟨y,by simp only[b7,hc];simpa using h3,h4⟩
theorem sk(h:Q (.normal,S)):W C f call .skip S Q:=⟨_,rfl,h⟩
theorem rt(h:Q (.ret,S)):W C f call .ret S Q:=⟨_,rfl,h⟩
theorem ex(h:Q (.exit k,S)):W C f call (.exit k) S Q:=⟨_,rfl,h⟩
def oP(C:ax)(f:FuncId)(k:Nat)(Q:Exit×ah->Prop)(x:Exit×ah):Prop:=match x.1 with| .normal=>∃S',dX (C.oW f k) x.2=some S'∧Q (.normal,S')| .exit j=>if j=k then∃S',dX (C.oW f k) x.2=some S'∧Q (.normal,S')else Q (.exit j,x.2)|_=>Q x
theorem cn(h:W C f call c S (oP C f k Q)):W C f call (.block k c) S Q:=by obtain⟨⟨e,s⟩,h1,h2⟩:=h;cases e with|normal=>(obtain⟨S',h3,h4⟩:=h2;exact⟨_,by simp only[b7,h1,AC,h3,Ha],h4⟩)|exit j=>(simp only[oP]at h2;split at h2;·{rename_i hj;obtain⟨S',h3,h4⟩:=h2;exact⟨_,by simp only[b7,h1,AC,hj,if_true,h3,Ha],h4⟩};·rename_i hj;exact⟨_,by simp only[b7,h1,AC,hj,if_false],h2⟩)|_=>exact⟨_,by simp only[b7,h1,AC],h2⟩
theorem cD(h:Q (.normal,S))(hk:C.oW f k=none:=by exact rfl):oP C f k Q (.normal,S):=⟨S,by rw[hk];rfl,h⟩
theorem cr(h:Q (.ret,S)):oP C f k Q (.ret,S):=h
theorem As(h:Q (.normal,S))(hk:C.oW f k=none:=by exact rfl):oP C f k Q (.exit k,S):=by simp only[oP,if_true];exact⟨S,by rw[hk];rfl,h⟩
theorem afY{j:Nat}(h:Q (.exit j,S))(hj:Nat.beq j k=false:=by exact rfl):oP C f k Q (.exit j,S):=by have:j≠k:=fun e=>by{subst e;simp at hj};simpa[oP,this]using h
/-! ### Places where the state is told anew -/
theorem Ri{S':ah}(hc:dX (C.oW f k) S=some S')(h:Q (.normal,S')):oP C f k Q (.exit k,S):=by simp only[oP,if_true];exact⟨S',hc,h⟩
def Bb(σ:Type)(o:Option (Bool×List Nat))(rep:σ->ah)(nh:σ->Option ρ)(r:ρ)(Q:Exit×ah->Prop)(x:Exit×ah):Prop:=match x.1 with| .normal=>∃s,dX o x.2=some (rep s)∧nh s=some r|_=>Q x
theorem gR{σ:Type}(rep:σ->ah)(nh:σ->Option ρ)(ha:W C f call a S (Bb σ (je C f b) rep nh r Q))(hk:∀s,nh s=some r->W C f call b (rep s) Q):W C f call (.seq a b) S Q:=by refine sq ?_;obtain⟨⟨e,s⟩,h1,h2⟩:=ha;refine⟨_,h1, ?_⟩;cases e with|normal=>(obtain⟨s,h3,h4⟩:=h2;exact⟨_,h3,hk s h4⟩)|_=>exact h2
theorem cZ{σ:Type}{o:Option (Bool×List Nat)}{rep:σ->ah}{nh:σ->Option ρ}(s:σ)(hF:nh s=some r)(hc:dX o S=some (rep s)):Bb σ o rep nh r Q (.normal,S):=⟨s,hc,hF⟩
theorem me{σ:Type}{o:Option (Bool×List Nat)}{rep:σ->ah}{nh:σ->Option ρ}(h:Q (.ret,S)):Bb σ o rep nh r Q (.ret,S):=h
theorem af1{σ:Type}{o:Option (Bool×List Nat)}{rep:σ->ah}{nh:σ->Option ρ}(h:Q (.exit k,S)):Bb σ o rep nh r Q (.exit k,S):=h
section
variable{σ:Type}{rep:σ->ah}{nh:σ->Option ρ}
end
/-! ### Regions -/
section
variable{K:List dJ->ah->Prop}{Z:List dJ->nZ->Prop}{m:Option (List Nat)}{ops:Array Oper}{i:Nat}{ks:List dJ}
def vR(C:ax)(f:FuncId)(call:eZ)(id:Nat)(ops:Array Oper)(draw:Bool)(S:ah)(Q:Exit×ah->Prop):Prop:=∃S',(nA C f call id ops draw S).bind (kD C f id)=some S'∧Q (.normal,S')
def vJ(C:ax)(f:FuncId)(id:Nat)(P:ah->Prop)(ks:List dJ)(S:ah):Prop:=lW (C.eK f id) ks=true∧P S
def GS(l:List Nat)(K:ah->Prop)(S:ah):Prop:=∃S',jJ l S=some S'∧K S'
def lQ(p:Nat)(lo xu:List Nat)(K:ah->Prop)(S:ah):Prop:=∃S',mc p lo S=some S'∧GS xu K S'
theorem w0{ops:Array Oper}{j4:Bool}(h:vR C f call id ops j4 S Q)(ha:C.lV f id=[]:=by exact rfl)(hn:C.mW f id=false:=by exact rfl):W C f call (.region id ops j4) S Q:=by obtain⟨S',h1,h2⟩:=h;exact⟨_,by simp[b7,hn,ha,jJ,h1],h2⟩
theorem fU{ops:Array Oper}{j4:Bool}(h:vR C f call id ops j4 S fun x=>W C f call b x.2 Q)(ha:C.lV f id=[])(hk2:je C f b=none)(hn:C.mW f id=false):W C f call (.seq (.region id ops j4) b) S Q:=sq (w0 (hn:=hn) (by obtain⟨S',h1,h2⟩:=h;exact⟨S',h1,aB h2 hk2⟩) ha)
theorem Ni(h:mA C f call ⟨l⟩ l S fun _ S'=>Q (.normal,S'))(hk:C.iF f id=none:=by exact rfl)(hz:C.js f id=[]:=by exact rfl)(ho:C.iu f id=[]:=by exact rfl):vR C f call id ⟨l⟩ false S Q:=by obtain⟨x,h1,h2⟩:=yC h;exact⟨_,by simp[nA,h1,hk,dX,kD,hz,ho,jJ,mc],h2⟩
theorem Nj(h:mA C f call ⟨l⟩ l S (vJ C f id fun S'=>Q (.normal,S')))(hk:C.iF f id=none:=by exact rfl)(hz:C.js f id=[]:=by exact rfl)(ho:C.iu f id=[]:=by exact rfl):vR C f call id ⟨l⟩ true S Q:=by obtain⟨x,h1,h2,h3⟩:=yC h;simp only[Hk]at h2;exact⟨_,by simp[nA,h1,h2,hk,dX,kD,hz,ho,jJ,mc],h3⟩
theorem Nl(h:mA C f call ⟨l⟩ l S fun _ S'=>lQ (1000+id) (C.iu f id) (C.js f id) (fun bu=>Q (.normal,bu)) S')(hk:C.iF f id=none:=by exact rfl):vR C f call id ⟨l⟩ false S Q:=by obtain⟨x,h1,aR,h0,bu,h2,h3⟩:=yC h;exact⟨_,by simp[nA,h1,hk,dX,kD,h0,h2],h3⟩
theorem Nn(h:mA C f call ⟨l⟩ l S (vJ C f id fun S'=>lQ (1000+id) (C.iu f id) (C.js f id) (fun bu=>Q (.normal,bu)) S'))(hk:C.iF f id=none:=by exact rfl):vR C f call id ⟨l⟩ true S Q:=by obtain⟨x,h1,h4,aR,h0,bu,h2,h3⟩:=yC h;simp only[Hk]at h4;exact⟨_,by simp[nA,h1,h4,hk,dX,kD,h0,h2],h3⟩
theorem rg(h:mA C f call ⟨l⟩ l S fun _ S'=>Q (.normal,S'))(hk:C.iF f id=none:=by exact rfl)(hz:C.js f id=[]:=by exact rfl)(ho:C.iu f id=[]:=by exact rfl)(ha:C.lV f id=[]:=by exact rfl)(hn:C.mW f id=false:=by exact rfl):W C f call (.region id ⟨l⟩ false) S Q:=w0 (Ni h hk hz ho) ha hn
theorem Gv(h:mA C f call ⟨l⟩ l S (vJ C f id fun S'=>Q (.normal,S')))(hk:C.iF f id=none:=by exact rfl)(hz:C.js f id=[]:=by exact rfl)(ho:C.iu f id=[]:=by exact rfl)(ha:C.lV f id=[]:=by exact rfl)(hn:C.mW f id=false:=by exact rfl):W C f call (.region id ⟨l⟩ true) S Q:=w0 (Nj h hk hz ho) ha hn
theorem ag(h:mA C f call ⟨l⟩ l S fun _ S'=>W C f call b S' Q)(hk:C.iF f id=none:=by exact rfl)(hz:C.js f id=[]:=by exact rfl)(ho:C.iu f id=[]:=by exact rfl)(ha:C.lV f id=[]:=by exact rfl)(hk2:je C f b=none:=by exact rfl)(hn:C.mW f id=false:=by exact rfl):W C f call (.seq (.region id ⟨l⟩ false) b) S Q:=fU (Ni h hk hz ho) ha hk2 hn
theorem mm(h:mA C f call ⟨l⟩ l S (vJ C f id fun S'=>W C f call b S' Q))(hk:C.iF f id=none:=by exact rfl)(hz:C.js f id=[]:=by exact rfl)(ho:C.iu f id=[]:=by exact rfl)(ha:C.lV f id=[]:=by exact rfl)(hk2:je C f b=none:=by exact rfl)(hn:C.mW f id=false:=by exact rfl):W C f call (.seq (.region id ⟨l⟩ true) b) S Q:=fU (Nj h hk hz ho) ha hk2 hn
theorem agx(h:mA C f call ⟨l⟩ l S fun _ S'=>lQ (1000+id) (C.iu f id) (C.js f id) (fun bu=>Q (.normal,bu)) S')(hk:C.iF f id=none:=by exact rfl)(ha:C.lV f id=[]:=by exact rfl)(hn:C.mW f id=false:=by exact rfl):W C f call (.region id ⟨l⟩ false) S Q:=w0 (Nl h hk) ha hn
theorem RG(h:mA C f call ⟨l⟩ l S (vJ C f id fun S'=>lQ (1000+id) (C.iu f id) (C.js f id) (fun bu=>Q (.normal,bu)) S'))(hk:C.iF f id=none:=by exact rfl)(ha:C.lV f id=[]:=by exact rfl)(hn:C.mW f id=false:=by exact rfl):W C f call (.region id ⟨l⟩ true) S Q:=w0 (Nn h hk) ha hn
theorem iB(h:mA C f call ⟨l⟩ l S fun _ S'=>lQ (1000+id) (C.iu f id) (C.js f id) (fun bu=>W C f call b bu Q) S')(hk:C.iF f id=none:=by exact rfl)(ha:C.lV f id=[]:=by exact rfl)(hk2:je C f b=none:=by exact rfl)(hn:C.mW f id=false:=by exact rfl):W C f call (.seq (.region id ⟨l⟩ false) b) S Q:=fU (Nl h hk) ha hk2 hn
theorem Sk(h:mA C f call ⟨l⟩ l S (vJ C f id fun S'=>lQ (1000+id) (C.iu f id) (C.js f id) (fun bu=>W C f call b bu Q) S'))(hk:C.iF f id=none:=by exact rfl)(ha:C.lV f id=[]:=by exact rfl)(hk2:je C f b=none:=by exact rfl)(hn:C.mW f id=false:=by exact rfl):W C f call (.seq (.region id ⟨l⟩ true) b) S Q:=fU (Nn h hk) ha hk2 hn
theorem cc{p:Nat}{K:ah->Prop}{lo xu:List Nat}(k:GS xu K S)(hl:lo=[]:=by exact rfl):lQ p lo xu K S:=by subst hl;exact⟨_,rfl,k⟩
theorem cm{p:Nat}{K:ah->Prop}{S':ah}{lo xu:List Nat}(s:Nat)(sl:List Nat)(he:tv p S s=some S')(k:lQ p sl xu K S')(hl:lo=s::sl:=by exact rfl):lQ p lo xu K S:=by subst hl;obtain⟨bu,h1,h2⟩:=k;exact⟨bu,by simp only[mc,he,AC];exact h1,h2⟩
theorem aeP{p s row off:Nat}{id:Id}{r r':List U}{x:Id×Option Rows}{wr:List (Id×Option Rows)}(hs:t s= .mp id row off)(hid:h id=some (some [r]))(hu:bB [p,s] 0 r=(r',x::wr))(Jx:Do s n=true)(hf:fresh h (x::wr)=true):tv p ⟨n,t,h⟩ s=some ⟨n,t,aN h ((id,some [r'])::x::wr)⟩:=by have hs':s<n:=of_decide_eq_true (by simp[Do]at Jx|-;omega);simp only[tv,hs,hid,hu,List.isEmpty_cons,GE,if_false];rw[if_pos ⟨hs',hf⟩]
theorem b8{K:ah->Prop}{l:List Nat}(k:K S)(hl:l=[]:=by exact rfl):GS l K S:=by subst hl;exact⟨_,rfl,k⟩
theorem nl(h:K ks S):dL C f call ops m i [] ks S K Z:=⟨_,rfl,by simpa using h⟩
def At(ks:List dJ):Bool:=ks.all fun k=>k.2.2.isEmpty
theorem Gp(a b:List dJ):At (a++b)=(At a&&At b):=by simp[At]
theorem ij{P:ah->Prop}(h:P S)(hf:lW (C.eK f id) ks=true:=by first|exact rfl|exact Cc _ _ rfl|(apply Cc;simp[Gp, *];done)|(apply Cc;simp only[Gp,Bool.and_eq_true];(repeat' constructor)<;>first|assumption|rfl)):dL C f call ops m i [] ks S (vJ C f id P) Z:=⟨_,rfl,by simpa using hf,h⟩
def El(σ:Type)(C:ax)(f:FuncId)(id:Nat)(draw:Bool)(rep:σ->ah)(x:σ)(ks:List dJ)(S:ah):Prop:=(draw=true->lW (C.eK f id) ks=true)∧lQ (1000+id) (C.iu f id) (C.js f id) (fun bu=>dX (C.iF f id) bu=some (rep x)) S
theorem XB{σ:Type}{draw:Bool}{A:Option σ}{tZ:σ->Option ρ}(rep:σ->ah)(hF:A.bind tZ=some r)(k1:∀x,A=some x->mA C f call ⟨l⟩ l S (El σ C f id draw rep x))(k2:∀x,tZ x=some r->Q (.normal,rep x)):vR C f call id ⟨l⟩ draw S Q:=by obtain⟨x,h1,h2⟩:=ED hF;obtain⟨y,h3,h4,aR,h5,bu,h6,h7⟩:=yC (k1 x h1);simp only[Hk]at h4;refine⟨rep x, ?_,k2 x h2⟩;simp only[nA,h3,AC];cases draw with|false=>(simp[kD,h5,h6,h7])|true=>simp[h4 rfl,kD,h5,h6,h7]
theorem dK{σ:Type}{draw:Bool}{A:Option σ}{tZ:σ->Option ρ}(rep:σ->ah)(hF:A.bind tZ=some r)(k1:∀x,A=some x->mA C f call ⟨l⟩ l S (El σ C f id draw rep x))(k2:∀x,tZ x=some r->W C f call b (rep x) Q)(ha:C.lV f id=[]:=by exact rfl)(hk2:je C f b=none:=by exact rfl)(hn:C.mW f id=false:=by exact rfl):W C f call (.seq (.region id ⟨l⟩ draw) b) S Q:=fU (XB rep hF k1 k2) ha hk2 hn
theorem xx{σ:Type}{rep:σ->ah}{x:σ}(h:lQ (1000+id) (C.iu f id) (C.js f id) (fun bu=>dX (C.iF f id) bu=some (rep x)) S):dL C f call ops m i [] ks S (El σ C f id false rep x) Z:=⟨_,rfl,And.intro (fun e=>Nm e) h⟩
theorem aV{σ:Type}{rep:σ->ah}{x:σ}(hc:dX (C.iF f id) S=some (rep x))(hz:C.js f id=[]:=by exact rfl)(ho:C.iu f id=[]:=by exact rfl):dL C f call ops m i [] ks S (El σ C f id false rep x) Z:=xx (by rw[hz,ho];exact⟨_,rfl,_,rfl,hc⟩)
variable{d:Nat}{ty:TypeId}{pos:String}{aG:Array Edge}{bk:Option (Nat×Bool)}{op:Op}{v:U}{g:Bool}
theorem aa3(i:Nat)(e:aJ)(l:List dJ):hkey i e l=hkey i e []++l:=by unfold hkey;split<;>simp
theorem ya{o:Oper}{e:aJ}(hy:ku m o=true)(he:q5 C f call S ops o=some e)(hs:(e.dj.all fun x=>decide (x.1<S.n))=true)(k:dL C f call ops (qF m i) (i+1) l (ks++hkey i e []) (S.app e) K Z):dL C f call ops m i (o::l) ks S K Z:=by obtain⟨x,h1,h2⟩:=k;refine⟨(x.1,hkey i e x.2), ?_, ?_⟩;·{simp only[ie,hy,he,if_true];rw[if_pos hs,h1];rfl};·rw[aa3];simpa using h2
theorem nv{d n:Nat}(h:Do d n=true):decide (d<n)=true:=by simp[Do]at h|-;omega
theorem pp(he:bp C f call ⟨n,t,h⟩ true ⟨some d,op,ty,pos,aG,none⟩=some ⟨[(d,v)],[],[]⟩)(k:dL C f call ops (qF m i) (i+1) l ks ⟨n,aj t d v,h⟩ K Z)(hs:Do d n=true:=by exact rfl)(hy:ku m ⟨some d,op,ty,pos,aG,none⟩=true:=by exact rfl):dL C f call ops m i (⟨some d,op,ty,pos,aG,none⟩::l) ks ⟨n,t,h⟩ K Z:=ya (e:=⟨[(d,v)],[],[]⟩) hy he (by simpa using nv hs) (by simpa[hkey,ah.app]using k)
theorem rr{y:Id}{rd:List Id}(he:bp C f call ⟨n,t,h⟩ true ⟨some d,op,ty,pos,aG,none⟩=some ⟨[(d,v)],y::rd,[]⟩)(k:dL C f call ops (qF m i) (i+1) l (ks++[(i,y::rd,[])]) ⟨n,aj t d v,h⟩ K Z)(hs:Do d n=true:=by exact rfl)(hy:ku m ⟨some d,op,ty,pos,aG,none⟩=true:=by exact rfl):dL C f call ops m i (⟨some d,op,ty,pos,aG,none⟩::l) ks ⟨n,t,h⟩ K Z:=ya (e:=⟨[(d,v)],y::rd,[]⟩) hy he (by simpa using nv hs) (by simpa[hkey,ah.app]using k)
theorem ww{rM:Option Nat}{dj:List (Nat×U)}{rd:List Id}{x:Id×Option Rows}{wr:List (Id×Option Rows)}(he:bp C f call ⟨n,t,h⟩ true ⟨rM,op,ty,pos,aG,none⟩=some ⟨dj,rd,x::wr⟩)(k:dL C f call ops (qF m i) (i+1) l (ks++[(i,rd,(x::wr).map (·.1))]) ⟨n,cS t dj,aN h (x::wr)⟩ K Z)(hs:(dj.all fun x=>Do x.1 n)=true:=by exact rfl)(hy:ku m ⟨rM,op,ty,pos,aG,none⟩=true:=by exact rfl):dL C f call ops m i (⟨rM,op,ty,pos,aG,none⟩::l) ks ⟨n,t,h⟩ K Z:=ya (e:=⟨dj,rd,x::wr⟩) hy he (by rw[Hm]at hs|-;exact fun y hy=>nv (hs y hy)) (by simpa[hkey,ah.app]using k)
theorem aC{j:Nat}{wt:Bool}{l0:List Oper}(hg:sU wt ⟨n,t,h⟩ (oX l0 j)=some g)(he:bp C f call ⟨n,t,h⟩ g ⟨some d,op,ty,pos,aG,some (j,wt)⟩=some ⟨[(d,v)],[],[]⟩)(k:dL C f call ⟨l0⟩ (qF m i) (i+1) l ks ⟨n,aj t d (.c6 g v),h⟩ K Z)(hs:Do d n=true:=by exact rfl)(hy:ku m ⟨some d,op,ty,pos,aG,some (j,wt)⟩=true:=by exact rfl):dL C f call ⟨l0⟩ m i (⟨some d,op,ty,pos,aG,some (j,wt)⟩::l) ks ⟨n,t,h⟩ K Z:=ya (e:=⟨[(d, .c6 g v)],[],[]⟩) hy (by rw[E0,hg,EN,E2,he];rfl) (by simpa using nv hs) (by simpa[hkey,ah.app]using k)
theorem K6{j:Nat}{wt:Bool}{l0:List Oper}{y:Id}{rd:List Id}(hg:sU wt ⟨n,t,h⟩ (oX l0 j)=some g)(he:bp C f call ⟨n,t,h⟩ g ⟨some d,op,ty,pos,aG,some (j,wt)⟩=some ⟨[(d,v)],y::rd,[]⟩)(k:dL C f call ⟨l0⟩ (qF m i) (i+1) l (ks++[(i,y::rd,[])]) ⟨n,aj t d (.c6 g v),h⟩ K Z)(hs:Do d n=true:=by exact rfl)(hy:ku m ⟨some d,op,ty,pos,aG,some (j,wt)⟩=true:=by exact rfl):dL C f call ⟨l0⟩ m i (⟨some d,op,ty,pos,aG,some (j,wt)⟩::l) ks ⟨n,t,h⟩ K Z:=ya (e:=⟨[(d, .c6 g v)],y::rd,[]⟩) hy (by rw[E0,hg,EN,E2,he];rfl) (by simpa using nv hs) (by simpa[hkey,ah.app]using k)
theorem pt{j:Nat}{wt:Bool}{l0:List Oper}(hg:sU wt ⟨n,t,h⟩ (oX l0 j)=some true)(he:bp C f call ⟨n,t,h⟩ true ⟨some d,op,ty,pos,aG,some (j,wt)⟩=some ⟨[(d,v)],[],[]⟩)(k:dL C f call ⟨l0⟩ (qF m i) (i+1) l ks ⟨n,aj t d (.c6 true v),h⟩ K Z)(hs:Do d n=true:=by exact rfl)(hy:ku m ⟨some d,op,ty,pos,aG,some (j,wt)⟩=true:=by exact rfl):dL C f call ⟨l0⟩ m i (⟨some d,op,ty,pos,aG,some (j,wt)⟩::l) ks ⟨n,t,h⟩ K Z:=aC hg he k hs hy
theorem pQ{j:Nat}{wt:Bool}{l0:List Oper}{y:Id}{rd:List Id}(hg:sU wt ⟨n,t,h⟩ (oX l0 j)=some true)(he:bp C f call ⟨n,t,h⟩ true ⟨some d,op,ty,pos,aG,some (j,wt)⟩=some ⟨[(d,v)],y::rd,[]⟩)(k:dL C f call ⟨l0⟩ (qF m i) (i+1) l (ks++[(i,y::rd,[])]) ⟨n,aj t d (.c6 true v),h⟩ K Z)(hs:Do d n=true:=by exact rfl)(hy:ku m ⟨some d,op,ty,pos,aG,some (j,wt)⟩=true:=by exact rfl):dL C f call ⟨l0⟩ m i (⟨some d,op,ty,pos,aG,some (j,wt)⟩::l) ks ⟨n,t,h⟩ K Z:=K6 hg he k hs hy
theorem Lz{j:Nat}{wt:Bool}{l0:List Oper}{dj:List (Nat×U)}{rd:List Id}{x:Id×Option Rows}{wr:List (Id×Option Rows)}{rM:Option Nat}(hg:sU wt ⟨n,t,h⟩ (oX l0 j)=some true)(he:bp C f call ⟨n,t,h⟩ true ⟨rM,op,ty,pos,aG,some (j,wt)⟩=some ⟨dj,rd,x::wr⟩)(k:dL C f call ⟨l0⟩ (qF m i) (i+1) l (ks++[(i,rd,(x::wr).map (·.1))]) ⟨n,cS t dj,aN h (x::wr)⟩ K Z)(hs:(dj.all fun x=>Do x.1 n)=true:=by exact rfl)(hy:ku m ⟨rM,op,ty,pos,aG,some (j,wt)⟩=true:=by exact rfl):dL C f call ⟨l0⟩ m i (⟨rM,op,ty,pos,aG,some (j,wt)⟩::l) ks ⟨n,t,h⟩ K Z:=ya (e:=⟨dj,rd,x::wr⟩) hy (by rw[E0,hg,EN,E2,he];rfl) (by rw[Hm]at hs|-;exact fun y hy=>nv (hs y hy)) (by simpa[hkey,ah.app]using k)
theorem gf{wt:Bool}{d:Nat}{u:U}{rM:Option Nat}(hd:rM=some d:=by exact rfl)(h:S.t d= .c6 false u:=by exact rfl):sU wt S rM=some false:=by subst hd;rw[Ol,h];cases u with|val v=>(cases v<;>simp[zn])|_=>rfl
theorem no{d:Nat}{j:Nat}{wt:Bool}{l0:List Oper}(k:∀u ks',At ks'=true->dL C f call ⟨l0⟩ (qF m i) (i+1) l (ks++ks') ⟨n,aj t d (.c6 false u),h⟩ K Z)(hg:sU wt ⟨n,t,h⟩ (oX l0 j)=some false:=by first|exact gf|exact rfl)(hs:Do d n=true:=by exact rfl)(hy:ku m ⟨some d,op,ty,pos,aG,some (j,wt)⟩=true:=by exact rfl):dL C f call ⟨l0⟩ m i (⟨some d,op,ty,pos,aG,some (j,wt)⟩::l) ks ⟨n,t,h⟩ K Z:=by have hj:∀(v:U)(rd:List Id),q5 C f call ⟨n,t,h⟩ ⟨l0⟩ ⟨some d,op,ty,pos,aG,some (j,wt)⟩=some ⟨[(d, .c6 false v)],rd,[]⟩->dL C f call ⟨l0⟩ m i (⟨some d,op,ty,pos,aG,some (j,wt)⟩::l) ks ⟨n,t,h⟩ K Z:=fun v rd he=>ya hy he (by simpa using nv hs) (by have:=k v (hkey i ⟨[(d, .c6 false v)],rd,[]⟩ []) (by unfold hkey At;split<;>simp);simpa[ah.app,cS]using this);rw[E0,hg,EN,E2]at hj;cases he:bp C f call ⟨n,t,h⟩ false ⟨some d,op,ty,pos,aG,some (j,wt)⟩with|none=>(exact hj .aF [] (by rw[he];rfl))|some e=>obtain⟨dj,rd,wr⟩:=e;cases wr with|cons x wr=>(exact hj .aF [] (by rw[he];rfl))|nil=>rcases Ln he with⟨v,hv⟩|⟨hv,_⟩;·{simp only[put]at hv;subst hv;exact hj v rd (by rw[he];rfl)};·exact absurd rfl hv
theorem cJ{A B:Option ρ}{d:Nat}{p:Bool}(hF:(if p=true then A else B)=some r)(h1:A=some r->dL C f call ops m i l ks ⟨n,aj t d (.val (.bool true)),h⟩ K Z)(h2:B=some r->dL C f call ops m i l ks ⟨n,aj t d (.val (.bool false)),h⟩ K Z)(hd:t d= .val (.bool p):=by exact rfl):dL C f call ops m i l ks ⟨n,t,h⟩ K Z:=by have e:∀q,t d= .val (.bool q)->aj t d (.val (.bool q))=t:=fun q hq=>by{funext j;unfold aj;split;·{rename_i hj;subst hj;exact hq.symm};·rfl};cases p with|true=>(have:=h1 (by simpa using hF);rwa[e _ hd]at this)|false=>have:=h2 (by simpa using hF);rwa[e _ hd]at this
theorem nc{A B:Option ρ}{d:Nat}{p:Bool}(hF:(if p=true then A else B)=some r)(h1:A=some r->dL C f call ops m i l ks ⟨n,aj t d (.c6 true (.val (.bool true))),h⟩ K Z)(h2:B=some r->dL C f call ops m i l ks ⟨n,aj t d (.c6 true (.val (.bool false))),h⟩ K Z)(hd:t d= .c6 true (.val (.bool p)):=by exact rfl):dL C f call ops m i l ks ⟨n,t,h⟩ K Z:=by have e:∀q,t d= .c6 true (.val (.bool q))->aj t d (.c6 true (.val (.bool q)))=t:=fun q hq=>by{funext j;unfold aj;split;·{rename_i hj;subst hj;exact hq.symm};·rfl};cases p with|true=>(have:=h1 (by simpa using hF);rwa[e _ hd]at this)|false=>have:=h2 (by simpa using hF);rwa[e _ hd]at this
theorem lJ{o:Oper}(k:dL C f call ops m (i+1) l ks S K Z)(hy:ku m o=false:=by exact rfl):dL C f call ops m i (o::l) ks S K Z:=by obtain⟨x,h1,h2⟩:=k;exact⟨x,by simp only[ie,hy,GE,if_false];exact h1,h2⟩
theorem Rg{o:Oper}{v:Value}{e:aJ}(he:q5 C f call S ops o=none)(hp:nK C call S ops o=some (v,e))(k:Z ks ⟨i,l,S,v,e⟩)(hm:m=none:=by exact rfl):dL C f call ops m i (o::l) ks S K Z:=by subst hm;exact⟨_,by simp only[ie,ku,if_true,he,hp,Ha];rfl,by simpa using k⟩
def GV(C:ax)(f:FuncId)(id:Nat)(p:nZ)(ks:List dJ)(Q:Exit×ah->Prop)(ks':List dJ)(S:ah):Prop:=lW (C.eK f id) (ks++(ks'++[(p.i,p.e.rd,p.e.wr.map (·.1))]))=true∧Q (fe p.v,u6 (z6 (C.eK f id) p.i (ks++ks')) (S.app p.e))
def A5(C:ax)(f:FuncId)(call:eZ)(id:Nat)(ops:Array Oper)(j4:Bool)(Q:Exit×ah->Prop)(ks:List dJ)(p:nZ):Prop:=if j4 then dL C f call ops (some (H1 p.i)) (p.i+1) p.l [] p.S (GV C f id p ks Q) xz else Q (fe p.v,p.S.app p.e)
def Em(C:ax)(f:FuncId)(id:Nat)(j4:Bool)(Q:Exit×ah->Prop)(ks:List dJ)(S:ah):Prop:=(j4=true->lW (C.eK f id) ks=true)∧lQ (1000+id) (C.iu f id) (C.js f id) (fun bu=>∃fm,dX (C.iF f id) bu=some fm∧Q (.normal,fm)) S
def WP(C:ax)(f:FuncId)(call:eZ)(id:Nat)(ops:Array Oper)(draw:Bool)(S:ah)(Q:Exit×ah->Prop):Prop:=∃x,q7 C f call id ops draw S=some x∧Q x
theorem air{j4:Bool}(h:dL C f call ⟨l⟩ none 0 l [] S (Em C f id j4 Q) (A5 C f call id ⟨l⟩ j4 Q)):WP C f call id ⟨l⟩ j4 S Q:=by obtain⟨⟨z,ks⟩,h1,h2⟩:=h;cases z with|inl S'=>(obtain⟨h2,bu,h3,fm,h4,UC,h5,h6⟩:=h2;simp only[Hk]at h2;refine⟨(.normal,UC), ?_,h6⟩;unfold q7;simp only[h1];cases j4 with|false=>(simp[kD,h3,h4,h5])|true=>simp[h2 rfl,kD,h3,h4,h5])|inr p=>simp only[Hk]at h2;unfold A5 at h2;cases j4 with|false=>(simp only[GE,if_false]at h2;exact⟨_,by unfold q7;simp only[h1];unfold BI;simp only[GE,if_false],h2⟩)|true=>simp only[if_true]at h2;obtain⟨⟨z,ks'⟩,h3,h4⟩:=h2;cases z with|inr _=>(exact h4.elim)|inl S'=>simp only[Hk]at h4;exact⟨_,by unfold q7;simp only[h1];unfold BI;simp only[if_true,h3,h4.1],h4.2⟩
theorem hJ{j4:Bool}(h:dL C f call ⟨l⟩ none 0 l [] S (Em C f id j4 Q) (A5 C f call id ⟨l⟩ j4 Q))(hn:C.mW f id=true:=by exact rfl)(ha:C.lV f id=[]:=by exact rfl):W C f call (.region id ⟨l⟩ j4) S Q:=by obtain⟨x,h1,h2⟩:=air h;exact⟨x,by simp[b7,hn,ha,jJ,h1],h2⟩
theorem kN(h:lQ (1000+id) (C.iu f id) (C.js f id) (fun bu=>Q (.normal,bu)) S)(hk:C.iF f id=none:=by exact rfl):dL C f call ops m i [] ks S (Em C f id false Q) Z:=⟨_,rfl,(fun e=>by cases e),by obtain⟨aR,h1,bu,h2,h3⟩:=h;exact⟨aR,h1,bu,h2,bu,by rw[hk];rfl,h3⟩⟩
theorem Al(h:lQ (1000+id) (C.iu f id) (C.js f id) (fun bu=>Q (.normal,bu)) S)(hk:C.iF f id=none:=by exact rfl)(hf:lW (C.eK f id) ks=true:=by first|exact rfl|exact Cc _ _ rfl|(apply Cc;simp[Gp, *];done)|(apply Cc;simp only[Gp,Bool.and_eq_true];(repeat' constructor)<;>first|assumption|rfl)):dL C f call ops m i [] ks S (Em C f id true Q) Z:=⟨_,rfl,(fun _=>by simpa using hf),by obtain⟨aR,h1,bu,h2,h3⟩:=h;exact⟨aR,h1,bu,h2,bu,by rw[hk];rfl,h3⟩⟩
theorem ke{v:Value}{rd:List Id}{wr:List (Id×Option Rows)}{wr':List (Id×Option Rows)}(k:Q (fe v,⟨n,t,aN h wr'⟩))(hw:wr=wr':=by exact rfl):A5 C f call id ops false Q ks ⟨i,l,⟨n,t,h⟩,v,⟨[],rd,wr⟩⟩:=by subst hw;exact k
theorem z8{v:Value}{rd:List Id}{wr:List (Id×Option Rows)}(k:dL C f call ops (some (H1 i)) (i+1) l [] ⟨n,t,h⟩ (GV C f id ⟨i,l,⟨n,t,h⟩,v,⟨[],rd,wr⟩⟩ ks Q) xz):A5 C f call id ops true Q ks ⟨i,l,⟨n,t,h⟩,v,⟨[],rd,wr⟩⟩:=k
theorem Ak{p:nZ}{ks':List dJ}{K':List Id}{wr:List (Id×Option Rows)}{wr':List (Id×Option Rows)}(k:Q (fe p.v,⟨n,fun _=> .aF,aN h wr'⟩))(hf:lW (C.eK f id) (ks++(ks'++[(p.i,p.e.rd,p.e.wr.map (·.1))]))=true:=by exact rfl)(hK:z6 (C.eK f id) p.i (ks++ks')=K':=by exact rfl)(hp:p.e.wr=wr:=by exact rfl)(hw:(K'.map fun i=>(i,none))++wr=wr':=by exact rfl):dL C f call ops m i [] ks' ⟨n,t,h⟩ (GV C f id p ks Q) xz:=by subst hK hp hw;refine⟨(.inl _,[]),rfl, ?_, ?_⟩;·{simpa using hf};·have e:u6 (z6 (C.eK f id) p.i (ks++ks')) (ah.app ⟨n,t,h⟩ p.e)=⟨n,fun _=> .aF,aN h ((z6 (C.eK f id) p.i (ks++ks')).map (fun i=>(i,none))++p.e.wr)⟩:=by{simp only[u6,ah.app,ah.mk.injEq,true_and];rw[sd]};simp only[PH];rw[e];exact k
end
/-! Ways of a panic. -/
theorem ff{v:Value}(h:Q (fe v,S)):Bc C f call b Q (fe v,S):=h
theorem kr{v:Value}(h:Q (fe v,S)):oP C f k Q (fe v,S):=h
theorem Rj{σ:Type}{o:Option (Bool×List Nat)}{rep:σ->ah}{nh:σ->Option ρ}{v:Value}(h:Q (fe v,S)):Bb σ o rep nh r Q (fe v,S):=h
end
open Go
theorem ga{α β:Type}(P:Program)(s:Sem α)(k:α->Sem β):cQ P (s>>=k)=(cQ P s).bind fun a=>cQ P (k a):=by show cQ P (s.bind k)=_;induction s with|pure a=>(rfl)|program k2 ih=>(simpa[Sem.bind,cQ]using ih P)|_=>simp[Sem.bind,cQ]
section
variable{P:Program}
theorem nL{α:Type}(a:α):cQ P (pure a:Sem α)=some a:=rfl
theorem Gi:cQ P program=some P:=rfl
theorem oD{t:TypeId}{d:TypeDesc}(h:P.underlying t=some d):cQ P (underlying t)=some d:=by unfold underlying;rw[ga,Gi,AC,h];rfl
def Ks:TypeDesc->Bool| .struct _=>false| .array _ _=>false|_=>true
theorem afL{t:TypeId}{d:TypeDesc}(h:P.underlying t=some d)(hd:Ks d=true):cQ P (isAgg t)=some false:=by unfold isAgg;rw[ga,oD h,AC];cases d<;>first|rfl|cases hd
theorem Q7{t:TypeId}{d:TypeDesc}{cs:Array Value}{off:Nat}{v:Value}(h:P.underlying t=some d)(hd:Ks d=true)(hv:cs[off]? =some v):cQ P (part t cs off)=some v:=by unfold part;rw[ga,afL h hd,AC,hv];rfl
theorem Q6(d:Nat)(t:TypeId)(xs ys:Array Value)(ht:P.underlying t=some (.struct (P.fieldsOf t)))(hp:P.stoodInHeld t=false):cQ P (Op.equalIn (d+1) t (.agg xs) (.agg ys))=cQ P (Op.eqFields d xs ys (P.fieldsOf t).toList):=by simp only[Op.equalIn,ga,oD ht,AC,Gi,hp,GE,if_false];rw[<-Array.forIn_toList];generalize(P.fieldsOf t).toList=fs;clear ht;induction fs with|nil=>(rfl)|cons f fs ih=>simp only[List.forIn_cons,Op.eqFields,ga];split;·{simp only[ga];cases cQ P (part f.type xs f.offset)with|none=>(rfl)|some a=>simp only[AC];cases cQ P (part f.type ys f.offset)with|none=>(rfl)|some b=>simp only[AC];cases cQ P (Op.equalIn d f.type a b)with|none=>(rfl)|some r=>cases r;·{rfl};·simp only[AC,Bool.not_true,GE,if_false,nL];exact ih};·simp only[nL,AC];exact ih
def DE:Value->Value->Option Bool| .int k a, .int k' b=>if k=k' then some (a==b)else none| .bool a, .bool b=>some (a==b)| .string a, .string b=>some (a.toList==b.toList)|_,_=>none
def fits:TypeDesc->Value->Bool| .int _, .int _ _=>true| .bool, .bool _=>true| .string, .string _=>true|_,_=>false
theorem afJ{d:Nat}{t:TypeId}{D:TypeDesc}{x y:Value}{b:Bool}(h:P.underlying t=some D)(hf:fits D x=true)(he:DE x y=some b):cQ P (Op.equalIn (d+1) t x y)=some b:=by
 cases x<;>cases D<;>simp only[fits,GE]at hf<;>cases y<;>simp only[DE]at he<;>try cases he
 ·simp[Op.equalIn,ga,oD h,nL]
 ·split at he
  ·rename_i hk;subst hk
   simp only[Kd]at he;subst he
   simp[Op.equalIn,ga,oD h,nL]
  ·cases he
 ·simp[Op.equalIn,ga,oD h,nL,beq_toListBytes]
def uC(P:Program)(xs ys:Array Value):List Field->Option Bool|[]=>some true|f::fs=>if f.name≠ "_" then match P.underlying f.type,xs[f.offset]?,ys[f.offset]? with|some D,some x,some y=>if fits D x then(DE x y).bind fun b=>(uC P xs ys fs).map (b&&·)else none|_,_,_=>none else none
theorem KP{d:Nat}{xs ys:Array Value}:∀{fs:List Field}{b:Bool},uC P xs ys fs=some b->cQ P (Op.eqFields (d+1) xs ys fs)=some b|[],b,h=>by{simp[uC]at h;subst h;rfl}|f::fs,b,h=>by unfold uC at h;split at h;·{rename_i hn;split at h;·{rename_i D x y hD hx hy;split at h;·{rename_i hf;simp only[Hd,PP]at h;obtain⟨b1,h1,b2,h2,rfl⟩:=h;have hd:Ks D=true:=by{cases D<;>cases x<;>simp[fits]at hf<;>rfl};simp only[Op.eqFields];rw[if_pos hn];simp only[ga,Q7 hD hd hx,Q7 hD hd hy,Option.bind_some,afJ hD hf h1];cases b1;·{rfl};·simpa using KP h2};·cases h};·cases h};·cases h
theorem Wi{t:TypeId}{x y:Operand}{xs ys:Array Value}{fs:Array Field}{b:Bool}(hf:P.underlying t=some (.struct fs))(hp:P.stoodInHeld t=false)(hm:P.eqGuardType P.depth t=false)(he:uC P xs ys fs.toList=some b):er P .eql t x y (.agg xs) (.agg ys)=some (.bool b):=by have e:P.fieldsOf t=fs:=by{unfold Program.fieldsOf;rw[hf]};unfold er;have e1:cQ P (eqGuard .eql t x y (.agg xs) (.agg ys))=some ():=by{simp[eqGuard,ga,Gi,hm,nL]};rw[ga,e1,AC];simp only[binOp,Op.equal,Op.maxDepth];rw[ga,Q6 9999 t xs ys (by rw[e];exact hf) hp,e,KP he];rfl
theorem Wq{t:TypeId}{x y:Operand}{xs ys:Array Value}{fs:Array Field}{b:Bool}(hf:P.underlying t=some (.struct fs))(hp:P.stoodInHeld t=false)(hm:P.eqGuardType P.depth t=false)(he:uC P xs ys fs.toList=some b):er P .neq t x y (.agg xs) (.agg ys)=some (.bool (!b)):=by have e:P.fieldsOf t=fs:=by{unfold Program.fieldsOf;rw[hf]};unfold er;have e1:cQ P (eqGuard .neq t x y (.agg xs) (.agg ys))=some ():=by{simp[eqGuard,ga,Gi,hm,nL]};rw[ga,e1,AC];simp only[binOp,Op.equal,Op.maxDepth];rw[ga,Q6 9999 t xs ys (by rw[e];exact hf) hp,e,KP he];rfl
end
open Go
inductive bQ where|nil|code(n:Int)|other deriving DecidableEq,Inhabited
def gp(t:TypeId):bQ->U| .nil=> .val .nilIface| .code n=> .val (.iface t (.int .i64 n))| .other=> .nn
/-! ### Facts about the program's types, found by their numbers -/
class de(C:ax)(t:TypeId)(d:outParam TypeDesc):Prop where ul:C.P.underlying t=some d
class cX(C:ax)(t:TypeId)(b:outParam Bool)(n:outParam Nat):Prop where
 kZ:kK C t=some b
 sz:gL C t=some n
class Fd(C:ax)(t i:Nat)(off n:outParam Nat)(b:outParam Bool):Prop where fd:BK C t i=some (off,n,b)
class kY(C:ax)(t:TypeId)(cs:outParam (List U)):Prop where fL:yj C t=some cs
class uv(C:ax)(t:TypeId)(cs:outParam (List U)):Prop where SV:yl C t=some cs
class Pl(C:ax)(t:TypeId)(pl:outParam (List (Nat×Nat×Bool))):Prop where pl:KO C t=some pl
def Bm(C:ax)(e:TypeId)(m:Nat):Bool:=match C.P.info? e with|some i=>i.size==m&&decide (0<m)&&decide (i.bytes<=4096)&&D8 i|none=>false
class sg(C:ax)(e:TypeId)(m:outParam Nat):Prop where ao:Bm C e m=true
class pW{α:Type}(c:α->List U):Prop where fl:∀x,cT (c x)=true
class ud{α:Type}(c:α->List U):Prop where
 im:∀x,ew (c x)=true
 ce:∀x,(c x).all U.cell=true
class Eg{α:Type}(c:α->List U)(c':outParam (α->List U)):Prop where dy:∀x,jr (c x)=c' x
class aiM{α:Type}(c:α->List U):Prop where mi:∀x,l7 (c x)=true
section
variable{g g' h k:Bool}{x:U}
theorem GK{t:TypeId}{e:bQ}:un g (gp t e)=gp t e:=by cases e<;>cases g<;>rfl
theorem aia{p:Bool}:un (true&&p) (.c6 (p==true) x)=x:=by cases p<;>rfl
theorem aib{p:Bool}:un (true&& !p) (.c6 (p==false) x)=x:=by cases p<;>rfl
theorem aic{p:Bool}:un (g&&p) (.c6 (g&&(p==true)) x)=x:=by cases p<;>cases g<;>rfl
theorem aid{p:Bool}:un (g&& !p) (.c6 (g&&(p==false)) x)=x:=by cases p<;>cases g<;>rfl
end
theorem ck{a b:U}(h:a=b:=by first|exact Sx _|exact GK|exact ah9|exact ant|exact aia|exact aib|exact aic|exact aid|exact ani|exact anj|exact anm|exact ank|exact anl):a=b:=h
theorem gt{a b:U}(h:a=b:=by first|exact(rfl:_=U.val _)|exact(rfl:_=U.sl _)|exact(rfl:_=U.rs _ _ _)|exact(rfl:_=U.mp _ _ _)|exact(rfl:_=U.aP _)|exact(rfl:_=U.agg _)|exact(rfl:_=U.bW)|exact(rfl:_=U.aI _)|exact(rfl:_=U.fn _ _ _)|exact GK|exact ah9|exact(rfl:_=U.nn)|exact(rfl:_=U.mr _)|exact(rfl:_=U.im _)|exact(rfl:_=U.ey _)|exact ck):a=b:=h
theorem ahD{α:Type}{a:α}{l t t':List α}(h:l=a::t)(k:t=t'):l=a::t':=by rw[h,k]
theorem ahE{α:Type}{l:List α}(h:l=[]:=by exact rfl):l=[]:=h
theorem spine{α:Type}{a b:List α}(h:a=b:=by repeat(first|exact ahE|apply ahD rfl)):a=b:=h
theorem Pr{α:Type}{o:Option α}(h:o=none):o.isNone=true:=by rw[h];rfl
section
variable{C:ax}{f:FuncId}{call:eZ}{S:ah}{g:Bool}
variable{d:Nat}{ty:TypeId}{pos:String}{aG:Array Edge}{bk:Option (Nat×Bool)}{v v':U}
variable{x y z:Operand}{k:IntKind}{a b:Int}{T cU:TypeId}
theorem aa(h:un g (S.get C x)=v:=by exact gt):bp C f call S g ⟨some d, .move x,ty,pos,aG,bk⟩=some ⟨[(d,v)],[],[]⟩:=by subst h;rfl
theorem af(h:un g (S.get C x)=v:=by exact gt):bp C f call S g ⟨some d, .assign x,ty,pos,aG,bk⟩=some ⟨[(d,v)],[],[]⟩:=by subst h;rfl
theorem oz{op:BinOp}{MO MP:U}{eD gS ng:Value}(hx:un g (S.get C x)=MO)(hy:un g (S.get C y)=MP)(h1:lM MO=some eD)(h2:lM MP=some gS)(hb:er C.P op T x y eD gS=some ng)(hs:dN ng=true):bp C f call S g ⟨some d, .binOp op T x y cU,ty,pos,aG,bk⟩=some ⟨[(d, .val ng)],[],[]⟩:=by show sK C _ op T x y (un g (S.get C x)) (un g (S.get C y))=_;rw[hx,hy];simp[sK,h1,h2,hb,hs]
theorem qy{op:BinOp}{ng:Value}(hb:er C.P op T x y (.int k a) (.int k b)=some ng)(hs:dN ng=true)(hx:un g (S.get C x)= .val (.int k a))(hy:un g (S.get C y)= .val (.int k b)):bp C f call S g ⟨some d, .binOp op T x y cU,ty,pos,aG,bk⟩=some ⟨[(d, .val ng)],[],[]⟩:=oz hx hy rfl rfl hb hs
theorem dA(hx:un g (S.get C x)= .val (.int k a):=by first|exact rfl|exact ck)(hy:un g (S.get C y)= .val (.int k b):=by first|exact rfl|exact ck):bp C f call S g ⟨some d, .binOp .add T x y cU,ty,pos,aG,bk⟩=some ⟨[(d, .val (.int k (k.wrap (a+b))))],[],[]⟩:=qy Wf rfl hx hy
theorem lq(hx:un g (S.get C x)= .val (.int k a):=by first|exact rfl|exact ck)(hy:un g (S.get C y)= .val (.int k b):=by first|exact rfl|exact ck):bp C f call S g ⟨some d, .binOp .sub T x y cU,ty,pos,aG,bk⟩=some ⟨[(d, .val (.int k (k.wrap (a-b))))],[],[]⟩:=qy Ws rfl hx hy
theorem Qp(hx:un g (S.get C x)= .val (.int k a):=by first|exact rfl|exact ck)(hy:un g (S.get C y)= .val (.int k b):=by first|exact rfl|exact ck):bp C f call S g ⟨some d, .binOp .mul T x y cU,ty,pos,aG,bk⟩=some ⟨[(d, .val (.int k (k.wrap (a*b))))],[],[]⟩:=qy Wn rfl hx hy
theorem bO(hx:un g (S.get C x)= .val (.int k a):=by first|exact rfl|exact ck)(hy:un g (S.get C y)= .val (.int k b):=by first|exact rfl|exact ck):bp C f call S g ⟨some d, .binOp .eql T x y cU,ty,pos,aG,bk⟩=some ⟨[(d, .val (.bool (a==b)))],[],[]⟩:=qy Wg rfl hx hy
theorem kP(hx:un g (S.get C x)= .val (.int k a):=by first|exact rfl|exact ck)(hy:un g (S.get C y)= .val (.int k b):=by first|exact rfl|exact ck):bp C f call S g ⟨some d, .binOp .neq T x y cU,ty,pos,aG,bk⟩=some ⟨[(d, .val (.bool (a !=b)))],[],[]⟩:=qy Wo rfl hx hy
theorem eV(hx:un g (S.get C x)= .val (.int k a):=by first|exact rfl|exact ck)(hy:un g (S.get C y)= .val (.int k b):=by first|exact rfl|exact ck):bp C f call S g ⟨some d, .binOp .lss T x y cU,ty,pos,aG,bk⟩=some ⟨[(d, .val (.bool (decide (a<b))))],[],[]⟩:=qy Wm rfl hx hy
theorem gF(hx:un g (S.get C x)= .val (.int k a):=by first|exact rfl|exact ck)(hy:un g (S.get C y)= .val (.int k b):=by first|exact rfl|exact ck):bp C f call S g ⟨some d, .binOp .leq T x y cU,ty,pos,aG,bk⟩=some ⟨[(d, .val (.bool (decide (a<=b))))],[],[]⟩:=qy Wl rfl hx hy
theorem gE(hx:un g (S.get C x)= .val (.int k a):=by first|exact rfl|exact ck)(hy:un g (S.get C y)= .val (.int k b):=by first|exact rfl|exact ck):bp C f call S g ⟨some d, .binOp .gtr T x y cU,ty,pos,aG,bk⟩=some ⟨[(d, .val (.bool (decide (b<a))))],[],[]⟩:=qy Wk rfl hx hy
theorem gv(hx:un g (S.get C x)= .val (.int k a):=by first|exact rfl|exact ck)(hy:un g (S.get C y)= .val (.int k b):=by first|exact rfl|exact ck):bp C f call S g ⟨some d, .binOp .geq T x y cU,ty,pos,aG,bk⟩=some ⟨[(d, .val (.bool (decide (b<=a))))],[],[]⟩:=qy Wj rfl hx hy
theorem Wh{P:Program}{a b:ByteArray}:er P .eql T x y (.string a) (.string b)=some (.bool (a.toList==b.toList)):=by simp[er,eqGuard,binOp,Op.stringOp,cQ,bind,Sem.bind,pure]
theorem Wp{P:Program}{a b:ByteArray}:er P .neq T x y (.string a) (.string b)=some (.bool (a.toList !=b.toList)):=by simp[er,eqGuard,binOp,Op.stringOp,cQ,bind,Sem.bind,pure,bne]
theorem mT{a b:ByteArray}(hx:un g (S.get C x)= .val (.string a):=by first|exact rfl|exact ck)(hy:un g (S.get C y)= .val (.string b):=by first|exact rfl|exact ck):bp C f call S g ⟨some d, .binOp .eql T x y cU,ty,pos,aG,bk⟩=some ⟨[(d, .val (.bool (a.toList==b.toList)))],[],[]⟩:=oz hx hy rfl rfl Wh rfl
theorem Kw{a b:ByteArray}(hx:un g (S.get C x)= .val (.string a):=by first|exact rfl|exact ck)(hy:un g (S.get C y)= .val (.string b):=by first|exact rfl|exact ck):bp C f call S g ⟨some d, .binOp .neq T x y cU,ty,pos,aG,bk⟩=some ⟨[(d, .val (.bool (a.toList !=b.toList)))],[],[]⟩:=oz hx hy rfl rfl Wp rfl
theorem Qv{op:BinOp}{xs ys:List U}{vx vy:List Value}{q:Bool}(hb:er C.P op T x y (.agg ⟨vx⟩) (.agg ⟨vy⟩)=some (.bool q))(hx:un g (S.get C x)= .agg xs:=by first|exact rfl|exact ck)(hy:un g (S.get C y)= .agg ys:=by first|exact rfl|exact ck)(h1:iC xs=some vx:=by exact rfl)(h2:iC ys=some vy:=by exact rfl):bp C f call S g ⟨some d, .binOp op T x y cU,ty,pos,aG,bk⟩=some ⟨[(d, .val (.bool q))],[],[]⟩:=oz hx hy (by simp[lM,h1]) (by simp[lM,h2]) hb rfl
theorem iJ{p:Bool}(hx:un g (S.get C x)= .val (.bool p):=by first|exact rfl|exact ck):bp C f call S g ⟨some d, .unOp .not T x,ty,pos,aG,bk⟩=some ⟨[(d, .val (.bool !p))],[],[]⟩:=by show wk C _ .not (un g (S.get C x))=_;rw[hx];rfl
theorem adX{op:UnOp}{eD ng:Value}(hb:D1 C.P op eD=some ng)(hs:dN ng=true)(hx:un g (S.get C x)= .val eD:=by first|exact rfl|exact ck):bp C f call S g ⟨some d, .unOp op T x,ty,pos,aG,bk⟩=some ⟨[(d, .val ng)],[],[]⟩:=by show wk C _ op (un g (S.get C x))=_;rw[hx];simp[hb,hs]
theorem adT{eD ng:Value}(hb:EO C.P T cU eD=some ng)(hx:un g (S.get C x)= .val eD:=by first|exact rfl|exact ck)(hs:dN ng=true:=by exact rfl)(hnb:uz C T cU=false:=by first|rfl|decide):bp C f call S g ⟨some d, .convert T cU x,ty,pos,aG,bk⟩=some ⟨[(d, .val ng)],[],[]⟩:=by show sM C _ T cU (un g (S.get C x))=_;rw[hx,Yk hnb];simp[hb,hs]
theorem c8{p q r:Bool}(hx:un g (S.get C x)= .val (.bool p):=by first|exact rfl|exact ck)(hy:un (g&&p) (S.get C y)= .val (.bool q):=by first|exact rfl|exact ck)(hz:un (g&& !p) (S.get C z)= .val (.bool r):=by first|exact rfl|exact ck):bp C f call S g ⟨some d, .pick x y z,ty,pos,aG,bk⟩=some ⟨[(d, .val (.bool (if p then q else r)))],[],[]⟩:=by show uH _ (un g (S.get C x)) (un (g&&mC (un g (S.get C x))) (S.get C y)) (un (g&& !mC (un g (S.get C x))) (S.get C z))=_;rw[hx];simp only[mC];rw[hy,hz];rfl
theorem bA{q:Bool}(hx:un g (S.get C x)= .val (.bool true):=by exact rfl)(hy:un (g&&true) (S.get C y)= .val (.bool q):=by first|exact rfl|exact ck):bp C f call S g ⟨some d, .pick x y z,ty,pos,aG,bk⟩=some ⟨[(d, .val (.bool q))],[],[]⟩:=by show uH _ (un g (S.get C x)) (un (g&&mC (un g (S.get C x))) (S.get C y)) (un (g&& !mC (un g (S.get C x))) (S.get C z))=_;rw[hx];simp only[mC];rw[hy];generalize un (g&& !true) (S.get C z)=w;cases w with|val v=>(cases v<;>rfl)|_=>rfl
theorem aX{q:Bool}(hx:un g (S.get C x)= .val (.bool false):=by exact rfl)(hz:un (g&&true) (S.get C z)= .val (.bool q):=by first|exact rfl|exact ck):bp C f call S g ⟨some d, .pick x y z,ty,pos,aG,bk⟩=some ⟨[(d, .val (.bool q))],[],[]⟩:=by show uH _ (un g (S.get C x)) (un (g&&mC (un g (S.get C x))) (S.get C y)) (un (g&& !mC (un g (S.get C x))) (S.get C z))=_;rw[hx];simp only[mC,Bool.not_false];rw[hz];generalize un (g&&false) (S.get C y)=w;cases w with|val v=>(cases v<;>rfl)|_=>rfl
/-! ### Memory that does not change -/
theorem rK{bb:Bool}{m:Nat}{cs cs':List U}[ha:cX C T bb m](hin:(C.dY f).contains d=true:=by exact rfl)(hx:un g (S.get C x)=v:=by exact gt)(hc:oV bb v=some cs:=by exact rfl)(hz:kO cs=cs':=by exact spine)(hi:ew cs'=true:=by exact rfl):bp C f call S g ⟨some d, .box T x,ty,pos,aG,bk⟩=some ⟨[(d, .aP cs')],[],[]⟩:=by show p7 C f S _ T (un g (S.get C x))=_;simp only[p7,ha.kZ,hx,hc,eG,hin,hz,hi,PQ,if_true];rfl
theorem bw{m:Nat}{cells cs:List U}[ha:cX C T false m](hx:un g (S.get C x)= .aP cells:=by first|exact rfl|exact ck)(hm:m=1:=by exact rfl)(hv:cells=v::cs:=by exact rfl):bp C f call S g ⟨some d, .load T x,ty,pos,aG,bk⟩=some ⟨[(d,v)],[],[]⟩:=by show mF C S _ T (un g (S.get C x))=_;subst hm hv;simp[mF,ha.kZ,ha.sz,hx,jx]
theorem jy{m:Nat}{cells cs:List U}[ha:cX C T true m](hx:un g (S.get C x)= .aP cells:=by first|exact rfl|exact ck)(hl:Hb m cells.length=true:=by exact rfl)(hv:cells.take m=cs:=by exact spine):bp C f call S g ⟨some d, .load T x,ty,pos,aG,bk⟩=some ⟨[(d, .agg cs)],[],[]⟩:=by show mF C S _ T (un g (S.get C x))=_;have hl':m<=cells.length:=Hc hl;simp[mF,ha.kZ,ha.sz,hx,hl',hv,jx]
theorem bN{i off m:Nat}{bb:Bool}{cells:List U}[hf:Fd C T i off m bb](hx:un g (S.get C x)= .aP cells:=by first|exact rfl|exact ck)(h0:Do 0 m=true:=by exact rfl)(hl:Hb off cells.length=true:=by exact rfl)(hz:(C.dY f).contains d=false:=by exact rfl):bp C f call S g ⟨some d, .fieldAddr T x i,ty,pos,aG,bk⟩=some ⟨[(d, .aP (cells.drop off))],[],[]⟩:=by show uE C f _ T i (un g (S.get C x))=_;have hl':off<=cells.length:=Hc hl;have h0':0<m:=of_decide_eq_true (nv h0);simp only[uE,hf.fd,hx,eG,hz];rw[if_pos ⟨h0',hl'⟩];rfl
theorem An{i off m:Nat}{cells cs:List U}[hf:Fd C T i off m false](hx:un g (S.get C x)= .agg cells:=by first|exact rfl|exact ck)(hm:m=1:=by exact rfl)(hv:cells.drop off=v::cs:=by exact rfl)(hl:Hb (off+1) cells.length=true:=by exact rfl):bp C f call S g ⟨some d, .field T x i,ty,pos,aG,bk⟩=some ⟨[(d,v)],[],[]⟩:=by show ze C _ T i (un g (S.get C x))=_;subst hm;have hl':off+1<=cells.length:=Hc hl;simp[ze,hf.fd,hx,hl',hv,jx]
theorem jR{e:TypeId}{m:Nat}{bb:Bool}{α:Type}{c:α->List U}{q:List α}{i:Int}{r:α}(hi:idx q i=some r)[hu:de C T (.slice e)][hs:cX C e bb m](hx:un g (S.get C x)= .sl (q.map c):=by first|exact rfl|exact ck)(hy:un g (S.get C y)= .val (.int k i):=by first|exact rfl|exact ck)(h0:Do 0 m=true:=by exact rfl)(hr:(c r).length=m:=by exact rfl):bp C f call S g ⟨some d, .indexAddr T x y,ty,pos,aG,bk⟩=some ⟨[(d, .aP (c r))],[],[]⟩:=by show n5 C S _ T (un g (S.get C x)) (ek (un g (S.get C y)))=_;have h0':0<m:=of_decide_eq_true (nv h0);have h1:=JL (c:=c) hi;unfold idx at h1;split at h1;·{rename_i hp;simp only[hx,hy,ek,n5,hu.ul,hs.sz,if_pos hp,h1,AC];simp[hr,h0']};·cases h1
def bE(s:ByteArray)(i:Int):Option UInt8:=if 0<=i then s[i.toNat]? else none
theorem cp{s:ByteArray}{i:Int}{r:UInt8}(hi:bE s i=some r)[hu:de C T .string](hx:un g (S.get C x)= .val (.string s):=by first|exact rfl|exact ck)(hy:un g (S.get C y)= .val (.int k i):=by first|exact rfl|exact ck):bp C f call S g ⟨some d, .index T x y,ty,pos,aG,bk⟩=some ⟨[(d, .val (.int .u8 r.toNat))],[],[]⟩:=by show uF C _ T (un g (S.get C x)) (ek (un g (S.get C y)))=_;unfold bE at hi;split at hi;·{rename_i hp;simp only[hx,hy,ek,uF,hu.ul,if_pos hp,hi,AC];rfl};·cases hi
section
variable{e:TypeId}{xs:Array Operand}{ts:Array TypeId}{T:TypeId}
theorem ir{α:Type}{c:α->List U}{q:List α}(hx:un g (S.get C x)= .sl (q.map c):=by first|exact rfl|exact ck)[hu:de C T (.slice e)]:bp C f call S g ⟨some d, .call ⟨.builtin .len,⟨[x]⟩,⟨[T]⟩⟩,ty,pos,aG,bk⟩=some ⟨[(d, .val (.int .i64 q.length))],[],[]⟩:=by show q6 C _ _ ([x].map fun x=>un g (S.get C x))=_;simp[hx,q6,hu.ul,CJ,CK,uJ]
theorem CY{id:Id}{off m m':Nat}(hx:un g (S.get C x)= .rs id off m':=by first|exact rfl|exact ck)(hm:m'=m:=by first|exact List.length_map _|exact rfl)[hu:de C T (.slice e)]:bp C f call S g ⟨some d, .call ⟨.builtin .len,⟨[x]⟩,⟨[T]⟩⟩,ty,pos,aG,bk⟩=some ⟨[(d, .val (.int .i64 m))],[],[]⟩:=by show q6 C _ _ ([x].map fun x=>un g (S.get C x))=_;simp[hx,q6,hu.ul,CJ,CK,uJ,hm]
theorem dS{s:ByteArray}(hx:un g (S.get C x)= .val (.string s):=by first|exact rfl|exact ck)[hu:de C T .string]:bp C f call S g ⟨some d, .call ⟨.builtin .len,⟨[x]⟩,⟨[T]⟩⟩,ty,pos,aG,bk⟩=some ⟨[(d, .val (.int .i64 s.size))],[],[]⟩:=by show q6 C _ _ ([x].map fun x=>un g (S.get C x))=_;simp[hx,q6,hu.ul,CJ,uJ]
end
theorem Q9:([]:List (Nat×Operand)).map (fun p=>(p.1,un g (S.get C p.2)))=[]:=rfl
theorem afN{i:Nat}{l:List (Nat×Operand)}{l':List (Nat×U)}(hx:un g (S.get C x)=v)(k:l.map (fun p=>(p.1,un g (S.get C p.2)))=l'):((i,x)::l).map (fun p=>(p.1,un g (S.get C p.2)))=(i,v)::l':=by simp[hx,k]
theorem Gj{l:List (Nat×Operand)}{l':List (Nat×U)}(h:l.map (fun p=>(p.1,un g (S.get C p.2)))=l':=by repeat(first|exact Q9|(apply afN;exact gt))):l.map (fun p=>(p.1,un g (S.get C p.2)))=l':=h
theorem en{p:List (Nat×Operand)}{fL cs cs0:List U}{pl:List (Nat×Nat×Bool)}{ps:List (Nat×U)}[hz:kY C T fL][hp:Pl C T pl](hq:(p.map fun p=>(p.1,un g (S.get C p.2)))=ps:=by exact Gj)(hf:wm pl fL ps=some cs0:=by exact rfl)(hc:cs0=cs:=by exact spine)(jM:C.vF f d=[]:=by exact rfl):bp C f call S g ⟨some d, .build T ⟨p⟩,ty,pos,aG,bk⟩=some ⟨[(d, .agg cs)],[],[]⟩:=by show uD C f _ T (p.map fun p=>(p.1,un g (S.get C p.2)))=_;rw[hq];simp[uD,hz.fL,hp.pl,hf,hc,D9,jM,vG]
theorem nJ{p:List (Nat×Operand)}{fL SS cs cs0:List U}{l:List Nat}{pl:List (Nat×Nat×Bool)}{ps:List (Nat×U)}[hz:kY C T fL][hp:Pl C T pl](jM:C.vF f d=l:=by exact rfl)(zQ:vG l fL=SS:=by exact rfl)(hq:(p.map fun p=>(p.1,un g (S.get C p.2)))=ps:=by exact Gj)(hf:wm pl SS ps=some cs0:=by exact rfl)(hc:cs0=cs:=by exact spine):bp C f call S g ⟨some d, .build T ⟨p⟩,ty,pos,aG,bk⟩=some ⟨[(d, .agg cs)],[],[]⟩:=by subst zQ;show uD C f _ T (p.map fun p=>(p.1,un g (S.get C p.2)))=_;rw[hq];simp[uD,hz.fL,hp.pl,hf,hc,D9,jM]
theorem Qj{dc:Fn}{fs cs:Array Operand}{fa fb:List U}(ha:(fs.toList.map fun x=>un g (S.get C x))=fa:=by exact spine)(hb:(cs.toList.map fun x=>un g (S.get C x))=fb:=by exact spine):bp C f call S g ⟨some d, .makeFunc dc fs cs,ty,pos,aG,bk⟩=some ⟨[(d, .fn dc fa fb)],[],[]⟩:=by subst ha hb;rfl
theorem eO{vs:List U}{i:Nat}(hx:un g (S.get C x)= .aI vs:=by first|exact rfl|exact ck)(hi:vs[i]? =some v:=by exact rfl):bp C f call S g ⟨some d, .extract x i,ty,pos,aG,bk⟩=some ⟨[(d,v)],[],[]⟩:=by show zc _ (un g (S.get C x)) i=_;rw[hx];simp[zc,hi]
theorem hG(hx:un g (S.get C x)=v:=by exact gt)(hv:(match v with| .aP _| .mp _ _ _| .fn (.func _) _ _=>true|_=>false)=true:=by exact rfl):bp C f call S g ⟨some d, .nilCheck x,ty,pos,aG,bk⟩=some ⟨[(d,v)],[],[]⟩:=by show BG _ (un g (S.get C x))=_;rw[hx];cases v with|fn dc a b=>(cases dc<;>first|rfl|cases hv)|aP _=>(rfl)|mp _ _ _=>(rfl)|_=>cases hv
theorem adi{P:Program}{ts:Array TypeId}{k:IntKind}{a b:Int}:FT P ts ty [.int k a, .int k b]=some (.int k (max a b)):=by have e:(if b>a then b else a)=max a b:=by{omega};simp[FT,Builtin.max_,Builtin.max2,cQ,List.foldlM,bind,Sem.bind,pure,e]
theorem adk{P:Program}{ts:Array TypeId}{k:IntKind}{a b:Int}:FU P ts ty [.int k a, .int k b]=some (.int k (min a b)):=by have e:(if b<a then b else a)=min a b:=by{omega};simp[FU,Builtin.min_,Builtin.min2,cQ,List.foldlM,bind,Sem.bind,pure,e]
theorem Qn{k:IntKind}{a b:Int}{ts:Array TypeId}(hx:un g (S.get C x)= .val (.int k a):=by first|exact rfl|exact ck)(hy:un g (S.get C y)= .val (.int k b):=by first|exact rfl|exact ck):bp C f call S g ⟨some d, .call ⟨.builtin .max,⟨[x,y]⟩,ts⟩,ty,pos,aG,bk⟩=some ⟨[(d, .val (.int k (max a b)))],[],[]⟩:=by show(match iC ([x,y].map fun x=>un g (S.get C x))with|some vs=>lI _ (FT C.P ts ty vs)|none=>none)=_;simp only[H2,H3,hx,hy,iC,Ha,adi];rfl
theorem Qo{k:IntKind}{a b:Int}{ts:Array TypeId}(hx:un g (S.get C x)= .val (.int k a):=by first|exact rfl|exact ck)(hy:un g (S.get C y)= .val (.int k b):=by first|exact rfl|exact ck):bp C f call S g ⟨some d, .call ⟨.builtin .min,⟨[x,y]⟩,ts⟩,ty,pos,aG,bk⟩=some ⟨[(d, .val (.int k (min a b)))],[],[]⟩:=by show(match iC ([x,y].map fun x=>un g (S.get C x))with|some vs=>lI _ (FU C.P ts ty vs)|none=>none)=_;simp only[H2,H3,hx,hy,iC,Ha,adk];rfl
/-! ### Parts of slices and strings -/
def slc{α:Type}(l:List α)(lo hi:Option Int):Option (List α):=(bounds (lo.map some) (hi.map some) l.length).map fun p=>(l.take p.2).drop p.1
def dV(s:ByteArray)(lo hi:Option Int):Option ByteArray:=(bounds (lo.map some) (hi.map some) s.size).map fun p=>s.extract p.1 p.2
theorem EE:(none.map fun y=>ek (un g (S.get C y)))=(none:Option Int).map some:=rfl
theorem EF{n:Int}(h:un g (S.get C y)= .val (.int k n):=by first|exact rfl|exact ck):((some y).map fun y=>ek (un g (S.get C y)))=(some n).map some:=by show some (ek (un g (S.get C y)))=_;rw[h];rfl
theorem yN{α:Type}{c:α->List U}{q:List α}{m:Nat}(hc:∀x,(c x).length=m):(q.map c).all (·.length==m)=true:=by simp[hc]
theorem Qt{e:TypeId}{α:Type}{c:α->List U}{q r:List α}{lo hi:Option Operand}{lo' hi':Option Int}{m:Nat}{bb:Bool}(hr:slc q lo' hi'=some r)[hu:de C T (.slice e)][hs:cX C e bb m](hx:un g (S.get C x)= .sl (q.map c):=by first|exact rfl|exact ck)(h1:(lo.map fun y=>ek (un g (S.get C y)))=lo'.map some:=by first|exact EE|exact EF)(h2:(hi.map fun y=>ek (un g (S.get C y)))=hi'.map some:=by first|exact EE|exact EF)(h0:Do 0 m=true:=by exact rfl)(hl:∀x,(c x).length=m:=by exact fun _=>rfl):bp C f call S g ⟨some d, .slice T x lo hi none,ty,pos,aG,bk⟩=some ⟨[(d, .sl (r.map c))],[],[]⟩:=by unfold slc at hr;obtain⟨p,hp,rfl⟩:=Option.map_eq_some_iff.1 hr;show qa C S _ T (un g (S.get C x)) _ _=_;have h0':0<m:=of_decide_eq_true (nv h0);rw[hx];simp only[qa,hu.ul,hs.sz,h1,h2,List.length_map,hp,AC];rw[if_pos ⟨h0',yN hl⟩];simp[ret,put]
theorem ja{s r:ByteArray}{lo hi:Option Operand}{lo' hi':Option Int}(hr:dV s lo' hi'=some r)[hu:de C T .string](hx:un g (S.get C x)= .val (.string s):=by first|exact rfl|exact ck)(h1:(lo.map fun y=>ek (un g (S.get C y)))=lo'.map some:=by first|exact EE|exact EF)(h2:(hi.map fun y=>ek (un g (S.get C y)))=hi'.map some:=by first|exact EE|exact EF):bp C f call S g ⟨some d, .slice T x lo hi none,ty,pos,aG,bk⟩=some ⟨[(d, .val (.string r))],[],[]⟩:=by show qa C S _ T (un g (S.get C x)) (lo.map fun y=>ek (un g (S.get C y))) (hi.map fun y=>ek (un g (S.get C y)))=_;unfold dV at hr;obtain⟨p,hp,rfl⟩:=Option.map_eq_some_iff.1 hr;rw[hx,h1,h2];simp only[qa,hu.ul,hp,AC];rfl
end
open Go
theorem Yd{t:TypeId}(e:bQ):e9 (gp t e)=true:=by cases e<;>rfl
theorem Zm{t:TypeId}{e:bQ}:dy (gp t e)=gp t e:=by cases e<;>rfl
theorem Pm{t:TypeId}{e:bQ}{p:Id}:imp p (gp t e)=(gp t e,[]):=by cases e<;>rfl
theorem ab0{t:TypeId}{e:bQ}{p:Id}{j:Nat}:eM p j [gp t e]=([gp t e],[]):=by cases e<;>rfl
/-! ### Owned cells become objects -/
section
variable{α:Type}{c:α->List U}{q:List α}{p:Id}{j:Nat}{l l0 l':List U}{v v':U}{wr:List (Id×Option Rows)}{rows:Rows}
theorem aij:bB p j []=([],[]):=rfl
theorem aii(hl:l=v::l0)(hv:bB p j [v]=([v],[]))(k:bB p (j+1) l0=(l',wr)):bB p j l=(v::l',wr):=by subst hl;cases v<;>simp_all[bB]
theorem aik{m:Nat}(hl:l= .own (q.map c) m::l0)(k:bB p (j+1) l0=(l',wr)):bB p j l=(.rs (j::p) 0 m::l',(j::p,some (q.map c))::wr):=by subst hl;simp[bB,k]
theorem D3(h:bB p j l=(l',wr):=by repeat'(first|exact aij|(apply aii;exact rfl;(first|exact rfl|exact anz|exact SA))|(apply aik;exact rfl)|(apply anA;exact rfl)|(apply anB;exact rfl))):bB p j l=(l',wr):=h
theorem ab6{m:Nat}:imp p (.own (q.map c) m)=(.rs p 0 m,[(p,some (q.map c))]):=by simp[imp]
theorem ab5(h:bB p 0 l=(l',wr)):imp p (.agg l)=(.agg l',wr):=by simp[imp,h]
theorem ab7(h:bB p 0 l=(l',wr)):imp p (.bf l)=(.mp p 0 0,(p,some [l'])::wr):=by simp[imp,h]
theorem ab2:eM p j []=([],[]):=rfl
theorem ab1(hl:l=v::l0)(hv:eM p j [v]=([v],[]))(k:eM p (j+1) l0=(l',wr)):eM p j l=(v::l',wr):=by subst hl;cases v with|own rows m=>(simp[eM]at hv)|bf cells=>(simp[eM]at hv)|ey rows=>(simp[eM]at hv)|agg cs=>(simp only[eM,PH,Prod.mk.injEq,List.cons.injEq,U.agg.injEq,and_true]at hv;simp[eM,k,hv.1,hv.2])|aI vs=>(simp[eM]at hv)|_=>simp[eM,k]
theorem abZ{w1 w2:List (Id×Option Rows)}{a a':List U}(hl:l= .agg a::l0)(h:bB (j::p) 0 a=(a',w1))(k:eM p (j+1) l0=(l',w2)):eM p j l=(.agg a'::l',w1++w2):=by subst hl;simp[eM,k,h]
theorem ab9(h:eM p 0 l=(l',wr)):imp p (.aI l)=(.aI l',wr):=by simp[imp,h]
theorem zU(h:imp p v=(v',wr):=by first|exact(rfl:imp _ (.val _)=(.val _,[]))|exact(rfl:imp _ (.sl _)=(.sl _,[]))|exact Pm|exact ab8|exact ab6|exact akS|exact akT|(apply ab5;exact D3)|(apply ab7;exact D3)|(apply ab9;repeat'(first|exact ab2|(apply ab1;exact rfl;(first|exact rfl|exact ab0|exact akR))|(apply akQ;exact rfl)|(apply akP;exact rfl)|(apply abZ;exact rfl;exact D3)))|exact rfl):imp p v=(v',wr):=h
theorem adn{n:Nat}{vs:List U}:aA n [] vs=⟨n,fun _=> .aF,fun _=>none⟩:=rfl
theorem adm{n s:Nat}{t:Nat->U}{h:Id->Option (Option Rows)}{l:List Nat}{vs:List U}(hi:imp [s] v=(v,[]))(k:aA n l vs=⟨n,t,h⟩):aA n (s::l) (v::vs)=⟨n,aj t s v,h⟩:=by simp[aA,k,hi,aN]
theorem adl{n s:Nat}{t:Nat->U}{h:Id->Option (Option Rows)}{l:List Nat}{vs:List U}(hi:imp [s] v=(v',wr))(k:aA n l vs=⟨n,t,h⟩):aA n (s::l) (v::vs)=⟨n,aj t s v',aN h wr⟩:=by simp[aA,k,hi]
theorem Kg{n:Nat}{t:Nat->U}{h:Id->Option (Option Rows)}{l:List Nat}{vs:List U}(k:aA n l vs=⟨n,t,h⟩:=by repeat'(first|exact adn|(apply adm;first|exact rfl|exact Pm|exact ab8)|(apply adl;exact zU))):aA n l vs=⟨n,t,h⟩:=k
end
section
variable{C:ax}{f:FuncId}{call:eZ}{c:Code}{Q:Exit×ah->Prop}{n:Nat}{t:Nat->U}{h:Id->Option (Option Rows)}{l:List Nat}{vs:List U}
theorem mk(k:W C f call c ⟨n,t,h⟩ Q)(hm:aA n l vs=⟨n,t,h⟩:=by exact Kg):W C f call c (aA n l vs) Q:=by rw[hm];exact k
theorem gH{e:Exit}(k:Q (e,⟨n,t,h⟩))(hm:aA n l vs=⟨n,t,h⟩:=by exact Kg):Q (e,aA n l vs):=by rw[hm];exact k
end
/-! ### Packing -/
def Nh{α:Type}(a b:List α):List α:=b.take (min b.length a.length)++a.drop (min b.length a.length)
theorem HK{α:Type}(a b:List α):(Nh a b).length=a.length:=by unfold Nh;rw[List.length_append,List.length_take,H4];omega
section
variable{L:Id->Option (Option Rows)}{n:Nat}{α:Type}{c:α->List U}{q:List α}{id:Id}{cs cs':List U}{ids is:List Id}{x v:U}
theorem wo [hc:pW c](q:List α):eB (q.map c)=true:=YM c q hc.fl
theorem xp{m m':Nat}(h:m=m':=by first|exact rfl|exact List.length_map _|(first|(with_reducible assumption)|assumption)|(symm;(first|(with_reducible assumption)|assumption))|(simp only[List.length_map,List.length_set,HK];done)|(simp only[List.length_map,List.length_set,HK];first|(first|(with_reducible assumption)|assumption)|(symm;(first|(with_reducible assumption)|assumption)))|(simp only[List.length_map,List.length_set,HK, *];done)):m=m':=h
theorem afy{y:U×List Id}:∀{a:U},flat a=true->pk L (n+1) a=some y->y=(a,[]):=by intro a hf h;cases a with|agg cs=>(simp only[flat]at hf;simp[pk,iM,hf]at h;exact h.symm)|aI cs=>(simp only[flat]at hf;simp[pk,iM,hf]at h;exact h.symm)|own rs m=>(simp only[flat]at hf;simp[pk,hf]at h;exact h.symm)|bf cs=>(simp only[flat]at hf;simp[pk,hf]at h;exact h.symm)|fn k a b=>(simp only[pk]at h;split at h;·{simpa using h.symm};·cases h)|rs _ _ _=>(simp[flat]at hf)|mp _ _ _=>(simp[flat]at hf)|mr _=>(simp[flat]at hf)|c6 _ _=>(simp[flat]at hf)|bW=>(simp[flat]at hf)|_=>simp[pk]at h;exact h.symm
theorem N5:∀{cs:List U}{y:List U×List Id},cT cs=true->eu (pk L (n+1)) cs=some y->y=(cs,[])|[],y,_,h=>by{simp[eu]at h;exact h.symm}|c::cs,y,hf,h=>by simp only[cT,GT]at hf;simp only[eu,Hd,PP]at h;obtain⟨u,hu,v,hv,rfl⟩:=h;obtain rfl:=afy hf.1 hu;obtain rfl:=N5 hf.2 hv;rfl
theorem QZ{y:List U×List Id}(h:eu (pk L (n+1)) cs=some y):iM (pk L (n+1)) cs=some y:=by unfold iM;split;·{rename_i hf;rw[N5 hf h]};·exact h
theorem afx{w:Value}(hx:x= .val w:=by exact rfl):pk L (n+1) x=some (.val w,[]):=by rw[hx];rfl
theorem afw{r:Rows}(hx:x= .sl r:=by exact rfl):pk L (n+1) x=some (.sl r,[]):=by rw[hx];rfl
theorem afu{r:List U}(hx:x= .aP r:=by exact rfl):pk L (n+1) x=some (.aP r,[]):=by rw[hx];rfl
theorem afp{t:TypeId}{e:bQ}(hx:x=gp t e:=by first|exact rfl|exact GK):pk L (n+1) x=some (gp t e,[]):=by rw[hx];cases e<;>rfl
theorem aft(hx:x= .bW:=by exact rfl):pk L (n+1) x=some (.own [] 0,[]):=by rw[hx];rfl
theorem afv{m:Nat}[hc:pW c](hx:x= .rs id 0 m:=by exact rfl)(hh:L id=some (some (q.map c)):=by exact rfl)(hl:m=q.length:=by exact xp):pk L (n+1) x=some (.own (q.map c) q.length,[id]):=by rw[hx,hl];exact afz hh (by simp) (wo q)
theorem afo(hx:x= .agg cs:=by exact rfl)(hf:cT cs=true:=by exact rfl):pk L (n+1) x=some (.agg cs,[]):=by rw[hx];simp[pk,iM,hf]
theorem afn(hx:x= .agg cs)(h:eu (pk L (n+1)) cs=some (cs',ids)):pk L (n+2) x=some (.agg cs',ids):=by rw[hx,show pk L (n+2) (.agg cs)=(iM (pk L (n+1)) cs).map fun x=>(.agg x.1,x.2)from rfl,QZ h];rfl
theorem afs(hx:x= .mp id 0 0:=by exact rfl)(hh:L id=some (some [cs]):=by exact rfl)(hf:cT cs=true:=by exact rfl):pk L (n+1) x=some (.bf cs,[id]):=by rw[hx];simp[pk,iM,hh,hf]
theorem afr(hx:x= .mp id 0 0)(hh:L id=some (some [cs]))(h:eu (pk L (n+1)) cs=some (cs',ids)):pk L (n+2) x=some (.bf cs',id::ids):=by have e:pk L (n+2) (.mp id 0 0)=match L id with|some (some [cs])=>if 0=0∧0=0 then(iM (pk L (n+1)) cs).map fun x=>(.bf x.1,id::x.2)else none|_=>none:=rfl;rw[hx,e,hh];simp only[and_self,if_true,QZ h];rfl
theorem afq{k:Fn}{a b:List U}(hx:x= .fn k a b:=by exact rfl)(hf:(ew a&&ew b)=true:=by exact rfl):pk L (n+1) x=some (.fn k a b,[]):=by rw[hx];simp only[GT]at hf;simp[pk,hf.1,hf.2]
theorem BN{p:U->Option (U×List Id)}(hx:cs=[]:=by exact rfl):eu p cs=some ([],[]):=by rw[hx];rfl
theorem BM{p:U->Option (U×List Id)}{a b:U}{as bs:List U}{i1 i2:List Id}(hx:cs=a::as)(h:p a=some (b,i1))(k:eu p as=some (bs,i2)):eu p cs=some (b::bs,i1++i2):=by subst hx;simp[eu,h,k]
theorem afC{t:Nat->U}:jC L t []=some ([],[]):=rfl
theorem afB{t:Nat->U}{s:Nat}{sl:List Nat}{vs:List U}(h1:pk L 9 (t s)=some (v,ids))(h2:jC L t sl=some (vs,is)):jC L t (s::sl)=some (v::vs,ids++is):=by rw[afc,h1,AC,h2];rfl
end
/-! ### One row of a list, open -/
section
variable{α:Type}{c c':α->List U}{q:List α}{k:Nat}{x x':α}{r r':List U}
end
/-! ### Packing -/
section
variable{L:Id->Option (Option Rows)}{n m:Nat}{α:Type}{c c':α->List U}{q:List α}{k:Nat}{x x':α}{r r':List U}{id:Id}{ids:List Id}{v:U}
end
section
variable{L:Id->Option (Option Rows)}{n:Nat}{α:Type}{c:α->List U}{q:List α}{id:Id}{cs cs':List U}{ids is:List Id}{x v:U}
theorem mU{a:U}{y:Option (U×List Id)}(h:pk L n a=y:=by repeat'(first|exact afx|exact afp|exact alC|exact aly|exact afw|exact afv|exact alE|(apply alH;exact rfl;exact rfl;exact rfl;(first|(with_reducible assumption)|assumption);exact xp;rotate_left;exact rfl)|(apply alG;exact rfl;exact rfl;exact rfl;(first|(with_reducible assumption)|assumption);exact ac6;rotate_left;exact rfl)|exact afo|exact afu|exact aft|exact alz|exact afs|exact alw|exact alD|exact alA|exact alJ|exact afq|exact alx|exact alB|exact alv|exact BN|(apply BM;exact rfl)|(apply afn;exact rfl)|(apply afr;exact rfl;exact rfl)|(apply alI;exact rfl)|(apply alF;exact rfl;exact rfl;exact rfl;exact rfl)|exact alY|(apply alX;exact rfl)|exact als|(apply alu;exact rfl))):pk L n a=y:=h
theorem Gh{t:Nat->U}{sl:List Nat}{y:Option (List U×List Id)}(h:jC L t sl=y:=by repeat'(first|exact afC|(apply afB;exact mU))):jC L t sl=y:=h
theorem aq{o:Option (Bool×List Nat)}{slots:List Nat}{t:Nat->U}{vs:List U}(hk:o=some (false,slots):=by exact rfl)(hp:jC L t slots=some (vs,is):=by exact Gh)(hn:dm is=true:=by exact rfl):dX o ⟨n,t,L⟩=some (aA n slots vs):=by subst hk;show(jd ⟨n,t,L⟩ slots).map _=_;rw[ags,hp];simp[hn]
end
/-! ### The same with names kept -/
section
variable{n:Nat}{t t2:Nat->U}{h:Id->Option (Option Rows)}{slots r:List Nat}{l:List (Id×Id)}{hl y:List (Id×Rows)}{α:Type}{c:α->List U}{q:List α}
def kB(n:Nat)(l:List (Nat×U))(h:List (Id×Rows)):ah:=⟨n,cS (fun _=> .aF) l,jw h⟩
/-! Rows that are flat, cell by cell. -/
theorem NY{α:Type}{c:α->List U}{q:List α}{m:Nat}[hc:pW c]:flat (.own (q.map c) m)=true:=by simp[flat,wo]
theorem NV{r cs:List U}{a:U}(e:r=a::cs)(h1:flat a=true)(h2:cT cs=true):cT r=true:=by subst e;simp[cT,h1,h2]
theorem YD{rows:Rows}(e:rows=[]:=by exact rfl):eB rows=true:=by subst e;rfl
theorem YE{rows rs:Rows}{r:List U}(e:rows=r::rs)(h1:cT r=true)(h2:eB rs=true):eB rows=true:=by subst e;simp[eB,h1,h2]
theorem H8{rows:Rows}(k:eB rows=true:=by(repeat'(first|exact wo _|exact YD|(apply YE;exact rfl)|exact YB|(apply NV;exact rfl)|exact rfl|exact Yy|exact YC|exact NY));first|done|fail):eB rows=true:=k
theorem adp:nI l t []=cS (fun _=> .aF) []:=rfl
theorem ado{s:Nat}{v':U}{vs:List (Nat×U)}(he:eH l (t s)=v')(hr:nI l t r=cS (fun _=> .aF) vs):nI l t (s::r)=cS (fun _=> .aF) ((s,v')::vs):=by subst he;simp[nI,hr,cS]
theorem K8 [hc:pW c]:mh l (q.map c)=some (q.map c):=by simp[mh,wo]
theorem La{cs cs':List U}(hf:cT cs=false:=by exact rfl)(h:pP l cs=some cs':=by first|exact rfl|exact al1):mh l [cs]=some [cs']:=by simp[mh,eB,hf,AH,h]
theorem K9{rows:Rows}(hf:eB rows=true:=by first|exact rfl|exact H8):mh l rows=some rows:=by simp[mh,hf]
end
section
variable{l:List (Id×Id)}{α:Type}{c:α->List U}{q:List α}{k:Nat}{x x':α}{r r':List U}
theorem agp{a:U}(h:flat a=true):vr l a=some a:=by cases a with|fn k as cs=>(simp only[vr];rw[if_pos (by simpa[flat]using h)])|rs _ _ _=>(simp[flat]at h)|mp _ _ _=>(simp[flat]at h)|mr _=>(simp[flat]at h)|bW=>(simp[flat]at h)|_=>simp only[vr,AD];rw[if_pos h]
theorem Dv:∀{as:List U},cT as=true->pP l as=some as|[],_=>rfl|a::as,h=>by simp only[cT,GT]at h;simp[pP,agp h.1,Dv h.2]
end
section
variable{n:Nat}{t t2:Nat->U}{h:Id->Option (Option Rows)}{slots r:List Nat}{l:List (Id×Id)}{hl y:List (Id×Rows)}{α:Type}{c:α->List U}{q:List α}
theorem abc{L:Id->Option (Option Rows)}:o4 L l []=some []:=rfl
theorem abb{L:Id->Option (Option Rows)}{r:List (Id×Id)}{o k:Id}{rows aT:Rows}(h:L o=some (some rows))(hr:mh l rows=some aT)(hy:o4 L l r=some y):o4 L l ((o,k)::r)=some ((k,aT)::y):=by simp[o4,h,hr,hy]
theorem hnk{L:Id->Option (Option Rows)}{r:List (Id×Id)}(h:o4 L l r=some y:=by repeat'(first|exact abc|(apply abb;exact rfl;first|exact K8|exact amc rfl|exact ame (by(first|(with_reducible assumption)|assumption))|exact La|exact K9))):o4 L l r=some y:=h
theorem adq{vs:List (Nat×U)}(h:nI l t slots=cS (fun _=> .aF) vs:=by repeat'(first|exact adp|(apply ado;first|exact rfl|exact amd))):nI l t slots=cS (fun _=> .aF) vs:=h
def ack:U->Bool| .bW=>true|_=>false
theorem Qf{y:ah}(e:(⟨n,t,h⟩:ah)=y:=by exact rfl):jP [] ⟨n,t,h⟩=y:=e
theorem adN{s:Nat}{sl:List Nat}{y:ah}(hs:ack (t s)=false)(k:jP sl ⟨n,t,h⟩=y):jP (s::sl) ⟨n,t,h⟩=y:=by have e:qx ⟨n,t,h⟩ s=⟨n,t,h⟩:=by{simp only[qx];split;·{rename_i h1 _;rw[h1]at hs;cases hs};·rfl};rw[jP,e];exact k
theorem adM{s:Nat}{sl:List Nat}{y:ah}(hs:t s= .bW)(hh:h [s,s]=none)(k:jP sl ⟨n,aj t s (.rs [s,s] 0 0),aj h [s,s] (some (some []))⟩=y):jP (s::sl) ⟨n,t,h⟩=y:=by have e:qx ⟨n,t,h⟩ s=⟨n,aj t s (.rs [s,s] 0 0),aj h [s,s] (some (some []))⟩:=by{simp only[qx,hs,hh]};rw[jP,e];exact k
theorem adO{y:ah}(k:jP slots ⟨n,t,h⟩=y:=by repeat'(first|with_reducible exact Qf|(apply adN;first|exact rfl|exact ak3|exact ak4)|(apply adM;exact rfl;exact rfl)|exact Qf)):jP slots ⟨n,t,h⟩=y:=k
section
variable{keep:Id->Bool}{o:Id}{ol:List Id}{y0:Option ah}{rows aT:Rows}{ids:List Id}{r r':List U}{k:Nat}
theorem Xc{α:Type}{g:α->Id}{y0:Option ah}(e:some (⟨n,t,h⟩:ah)=y0:=by exact rfl):jn keep (List.map g []) ⟨n,t,h⟩=y0:=e
theorem adv(e:(dm ids&& !ids.contains o)=true):(dm ids&& !ids.contains o)=true:=e
theorem Xa(hh:h o=some (some rows))(hf:eB rows=true)(k:jn keep ol ⟨n,t,h⟩=y0):jn keep (o::ol) ⟨n,t,h⟩=y0:=by have e:p5 keep ⟨n,t,h⟩ o=some ⟨n,t,h⟩:=by{simp only[p5,hh,hf,if_true]};rw[jn,e];exact k
theorem Xg(hh:h o=some (some rows))(hf:eB rows=false)(hc:eS (k3 h keep) rows=some (aT,ids))(hn:(dm ids&& !ids.contains o)=true)(k:jn keep ol ⟨n,t,aN h ((o,some aT)::ids.map fun i=>(i,none))⟩=y0):jn keep (o::ol) ⟨n,t,h⟩=y0:=by have e:p5 keep ⟨n,t,h⟩ o=some ⟨n,t,aN h ((o,some aT)::ids.map fun i=>(i,none))⟩:=by{simp only[p5,hh,hf,hc,hn,if_true];rfl};rw[jn,e];exact k
theorem Nk(hf:cT r=false:=by exact rfl)(hc:eu (gW h keep) r=some (r',ids)):k3 h keep r=some (r',ids):=by simp[k3,hf,hc]
theorem N3{p:List U->Option (List U×List Id)}(e:rows=[]:=by exact rfl):eS p rows=some ([],[]):=by subst e;rfl
theorem N4{p:List U->Option (List U×List Id)}{rs:Rows}{i1 i2:List Id}(e:rows=r::rs)(h1:p r=some (r',i1))(h2:eS p rs=some (aT,i2)):eS p rows=some (r'::aT,i1++i2):=by subst e;simp[eS,h1,h2]
theorem Hy{i:Id}{off len:Nat}{x:U}(hx:x= .rs i off len:=by exact rfl)(hk:keep i=true:=by exact rfl):gW h keep x=some (.rs i off len,[]):=by subst hx;simp[gW,hk]
theorem HA{i:Id}{off len:Nat}{x x':U}(hx:x= .rs i off len:=by exact rfl)(hk:keep i=false:=by exact rfl)(hp:pk h 8 (.rs i off len)=some (x',ids)):gW h keep x=some (x',ids):=by subst hx;simp[gW,hk,hp]
theorem Hz{x:U}(hx:x= .bW:=by exact rfl):gW h keep x=some (.own [] 0,[]):=by subst hx;rfl
theorem JW:∀{l:List U},cT l=true->Aa keep l=true|[],_=>rfl|a::l,hf=>by simp only[cT,GT]at hf;simp only[Aa,List.all_cons,GT];refine⟨?_,JW hf.2⟩;cases a<;>first|exact hf.1|(simp[flat]at hf)
theorem Bu{x:U}(hf:flat x=true):gW h keep x=some (x,[]):=by cases x with|fn k as cs=>(simp only[flat,GT]at hf;simp only[gW];rw[if_pos (by simp[JW hf.1,JW hf.2])])|rs _ _ _=>(simp[flat]at hf)|mp _ _ _=>(simp[flat]at hf)|mr _=>(simp[flat]at hf)|bW=>(simp[flat]at hf)|_=>simp only[gW];rw[if_pos hf]
end
section
variable{α:Type}{c:α->List U}{q:List α}{k:Nat}{x x':α}{r r':List U}{ids:List Id}{keep:Id->Bool}{o:Id}{ol:List Id}{y0:Option ah}
end
theorem Xi{keep:Id->Bool}{ol:List Id}{y0:Option ah}(k:jn keep ol ⟨n,t,h⟩=y0:=by repeat'(first|with_reducible exact ajp|with_reducible exact Xc|(apply Xa;exact rfl;first|exact wo _|exact rfl|exact H8)|(apply ajq;exact rfl;exact rfl;(first|(with_reducible assumption)|assumption);exact inferInstance)|(apply Xg;exact rfl;exact rfl)|exact N3|(apply N4;exact rfl)|exact XC|(apply Nk;exact rfl)|exact Hy|exact M1|exact M3|exact Hz|(apply M5;exact rfl;exact rfl;exact mU)|(apply HA;exact rfl;exact rfl;exact mU)|(apply M4;exact rfl;exact rfl;exact mU)|(apply Bu;first|exact rfl|exact NW|exact NZ|exact NX)|exact M0|exact BN|(apply BM;exact rfl)|exact adv rfl)):jn keep ol ⟨n,t,h⟩=y0:=k
/-! Names, one by one. -/
def PJ:U->Bool| .fn _ as cs=> !(cT as&&cT cs)| .rs _ _ _=>true| .mp _ _ _=>true| .mr _=>true| .agg _=>true|_=>false
section
variable{L:Id->Option (Option Rows)}{m j:Nat}{p i:Id}{acc acc' sD y l:List (Id×Id)}{a:U}{as cs eR:List U}{S:ah}{s:Nat}{slots:List Nat}
theorem XH(hx:eR=[])(e:acc=y):jo L m p j acc eR=y:=by subst hx;cases m<;>exact e
theorem XM(hx:eR=a::as)(hs:PJ a=false)(k:jo L m p (j+1) acc as=y):jo L (m+1) p j acc eR=y:=by subst hx;cases a with|fn f xs cs=>(simp only[PJ,Bool.not_eq_false']at hs;simp only[jo,if_pos hs];exact k)|_=>first|exact k|cases hs
theorem Kp{i q:Id}(h:iI i=false)(h2:iI q=false):rJ i q=q:=by simp[rJ,h,h2]
theorem Kq{i q:Id}(h:iI i=true):rJ i q=i:=by simp[rJ,h]
variable{nm:Id}
theorem XL{o n:Nat}(hx:eR= .rs i o n::as)(hn:(gy acc i).isSome=false)(hm:rJ i (j::p)=nm)(hl:acc++[(i,nm)]=acc')(k:jo L m p (j+1) acc' as=y):jo L (m+1) p j acc eR=y:=by subst hx hl hm;simp only[jo,hn];exact k
theorem XJ{o n:Nat}(hx:eR= .mp i o n::as)(hn:(gy acc i).isSome=false)(hh:L i=some (some [cs]))(hm:rJ i (j::p)=nm)(hl:acc++[(i,nm)]=acc')(h1:jo L m (j::p) 0 acc' cs=sD)(k:jo L m p (j+1) sD as=y):jo L (m+1) p j acc eR=y:=by subst hx hl h1 hm;simp only[jo,hn,hh];exact k
theorem adC(e:acc=l):H0 (fun acc s=>jo S.h 40 [s] 0 acc [S.t s]) acc []=l:=e
theorem adB(h:jo S.h 40 [s] 0 acc [S.t s]=acc')(k:H0 (fun acc s=>jo S.h 40 [s] 0 acc [S.t s]) acc' slots=l):H0 (fun acc s=>jo S.h 40 [s] 0 acc [S.t s]) acc (s::slots)=l:=by subst h;exact k
theorem adA{Sb:List Nat}(hs:slots=Sb)(h:H0 (fun acc s=>jo S.h 40 [s] 0 acc [S.t s]) [] Sb=l):names S slots=l:=by subst hs;exact h
theorem adD(h:names S slots=l:=by((with_reducible apply adA);exact spine);repeat'(first|((with_reducible apply adC);exact rfl)|(with_reducible apply adB)|((with_reducible apply XH);(with_reducible exact rfl);exact rfl)|((with_reducible apply XM);exact rfl;first|exact rfl|exact alb|exact ale)|((with_reducible apply XL);exact rfl;exact rfl;(first|exact Kp rfl rfl|exact Kq rfl|exact Qd rfl rfl spine);exact spine)|((with_reducible apply ajB);exact rfl;exact rfl)|((with_reducible apply ajz);exact rfl;exact rfl;(first|exact Kp rfl rfl|exact Kq rfl|exact Qd rfl rfl spine);exact spine)|((with_reducible apply ajA);exact rfl;exact rfl)|((with_reducible apply ajy);exact rfl;exact rfl)|((with_reducible apply XJ);exact rfl;exact rfl;exact rfl;(first|exact Kp rfl rfl|exact Kq rfl|exact Qd rfl rfl spine);exact spine)|((with_reducible apply ajw);exact rfl)|((with_reducible apply ajx);exact rfl;exact rfl))):names S slots=l:=h
end
theorem adL{t0 t1:Nat->U}{h0 h1:Id->Option (Option Rows)}{vs:List (Nat×U)}(e0:jP slots ⟨n,t,h⟩=⟨n,t0,h0⟩:=by exact adO)(hn:names ⟨n,t0,h0⟩ slots=l:=by first|exact adD|exact spine)(e1:jn (tj l) (l.map (·.1)) ⟨n,t0,h0⟩=some ⟨n,t1,h1⟩:=by exact Xi)(hd:(dm (l.map (·.1))&&dm (l.map (·.2))&&l.all (fun x=> !iI x.2||x.1==x.2))=true:=by exact rfl)(hh:o4 h1 l l=some hl:=by exact hnk)(ht:nI l t1 slots=cS (fun _=> .aF) vs:=by exact adq):norm ⟨n,t,h⟩ slots=some (kB n vs hl):=by subst hn;simp only[norm,CV,e0,e1,AC,tu,hd,if_true,hh,Ha,ht,kB]
theorem ia{o:Option (Bool×List Nat)}{vs:List (Nat×U)}(hk:o=some (true,slots):=by exact rfl)(hm:norm ⟨n,t,h⟩ slots=some (kB n vs hl):=by exact adL):dX o ⟨n,t,h⟩=some (kB n vs hl):=by subst hk;exact hm
end
section
variable{C:ax}{f:FuncId}{call:eZ}{c:Code}{Q:Exit×ah->Prop}{n:Nat}{l:List (Nat×U)}{h:List (Id×Rows)}
theorem r8(k:W C f call c ⟨n,cS (fun _=> .aF) l,jw h⟩ Q):W C f call c (kB n l h) Q:=k
theorem KU{e:Exit}(k:Q (e,⟨n,cS (fun _=> .aF) l,jw h⟩)):Q (e,kB n l h):=k
end
section
variable{α:Type}{c c':α->List U}{q:List α}{as bs:List U}{L:Id->Option (Option Rows)}{n:Nat}
/-! Freezing -/
theorem Zp [hc:Eg c c']:dy (.own (q.map c) q.length)= .sl (q.map c'):=by have:jK (q.map c)=q.map c':=by{induction q with|nil=>(rfl)|cons x q ih=>simp[jK,hc.dy,ih]};simp only[dy,this];rw[H5 (by simp)]
theorem Zl{a b:U}(h:dy a=b)(k:jr as=bs):jr (a::as)=b::bs:=by simp[jr,h,k]
theorem Zk(h:jr as=bs):dy (.agg as)= .agg bs:=by simp[dy,h]
theorem Zr(h:jr as=bs):dy (.aI as)= .aI bs:=by simp[dy,h]
theorem Zq(h:jr as=bs):dy (.bf as)= .aP bs:=by simp[dy,h]
theorem Fb{a b:U}(h:dy a=b:=by repeat'(first|exact(rfl:dy (.val _)= .val _)|exact Zm|exact akc|exact Zp|exact akb|exact(rfl:dy (.sl _)= .sl _)|apply Zk|apply Zr|apply Zq|exact(rfl:jr []=[])|apply Zl|exact rfl)):dy a=b:=h
end
/-! ### Memory of one's own -/
def app{α:Type}(a b:List α):Option (List α):=if a.length+b.length<=4294967296 then some (a++b)else none
theorem Hl{α:Type}{a b r:List α}(h:app a b=some r):a.length+b.length<=4294967296∧r=a++b:=by unfold app at h;split at h;·{exact⟨‹_›,by simpa using h.symm⟩};·cases h
def CR{α:Type}(n:Int)(z:α):Option (List α):=if 0<=n∧n<=4294967296 then some (Hn n.toNat z)else none
theorem Gw{α:Type}{c:α->List U}{q:List α}[hc:ud c]:qB (q.map c)=true:=by simp only[qB,IH,Hm];exact fun x _=>hc.ce x
section
variable{C:ax}{f:FuncId}{call:eZ}{S:ah}{g:Bool}
variable{d:Nat}{ty:TypeId}{pos:String}{aG:Array Edge}{bk:Option (Nat×Bool)}{v v':U}
variable{x y z:Operand}{k:IntKind}{a b:Int}{T cU:TypeId}
theorem dB{cs:List U}[hz:uv C T cs](hn:S.h [d]=none:=by exact rfl)(jM:C.vF f d=[]:=by exact rfl):bp C f call S g ⟨some d, .alloc T,ty,pos,aG,bk⟩=some ⟨[(d, .mp [d] 0 0)],[],[([d],some [cs])]⟩:=by show sJ C f S _ T=_;simp[sJ,hz.SV,hn,jM,vG]
theorem l8{bb:Bool}{m:Nat}{cs:List U}[ha:cX C T bb m](hin:(C.dY f).contains d=false:=by exact rfl)(hx:un g (S.get C x)=v:=by exact gt)(hc:oV bb v=some cs:=by exact rfl)(hn:S.h [d]=none:=by exact rfl):bp C f call S g ⟨some d, .box T x,ty,pos,aG,bk⟩=some ⟨[(d, .mp [d] 0 0)],[],[([d],some [cs])]⟩:=by show p7 C f S _ T (un g (S.get C x))=_;simp only[p7,ha.kZ,hx,hc,eG,hin,Pi,GE,if_false];rw[if_pos (Pr hn)];rfl
theorem dn{i off off' row m:Nat}{bb:Bool}{id:Id}[hf:Fd C T i off m bb](hx:un g (S.get C x)= .mp id row off':=by first|exact rfl|exact ck)(h0:Do 0 m=true:=by exact rfl):bp C f call S g ⟨some d, .fieldAddr T x i,ty,pos,aG,bk⟩=some ⟨[(d, .mp id row (off'+off))],[],[]⟩:=by show uE C f _ T i (un g (S.get C x))=_;have h0':0<m:=of_decide_eq_true (nv h0);simp[uE,hf.fd,hx,h0']
theorem J0{bb:Bool}{m row off:Nat}{id:Id}{rows:Rows}{r cs:List U}(ha:kK C T=some bb)(hs:gL C T=some m)(hx:un g (S.get C x)= .mp id row off)(hh:S.h id=some (some rows))(hr:rows[row]? =some r)(hl:Hb (off+m) r.length=true)(hc:bB [d] 0 ((r.drop off).take m)=(cs,[]))(hv:jx bb cs=some v):bp C f call S g ⟨some d, .load T x,ty,pos,aG,bk⟩=some ⟨[(d,v)],[id],[]⟩:=by show mF C S _ T (un g (S.get C x))=_;rw[hx];have hl':off+m<=r.length:=Hc hl;simp only[mF,ha,hs,hh,hr,AC,if_pos hl',iT,hc,hv,List.isEmpty_nil,if_true,Ha];rfl
theorem F3{m row off:Nat}{id:Id}{α:Type}{c:α->List U}{q:List α}{r:α}{cs:List U}(hr:q[row]? =some r)[ha:cX C T false m](hx:un g (S.get C x)= .mp id row off:=by first|exact rfl|exact ck)(hh:S.h id=some (some (q.map c)):=by exact rfl)(hm:m=1:=by exact rfl)(hv:(c r).drop off=v::cs:=by exact rfl)(hu:bB [d] 0 [v]=([v],[]):=by first|exact rfl|exact SA):bp C f call S g ⟨some d, .load T x,ty,pos,aG,bk⟩=some ⟨[(d,v)],[id],[]⟩:=by subst hm;refine J0 (rows:=q.map c) (r:=c r) (cs:=[v]) ha.kZ ha.sz hx hh (by simp[hr]) ?_ (by rw[hv];exact hu) rfl;have:=congrArg List.length hv;simp only[H4,Ps]at this;apply QP;omega
theorem fZ{m off:Nat}{id:Id}{r cs:List U}[ha:cX C T false m](hx:un g (S.get C x)= .mp id 0 off:=by first|exact rfl|exact ck)(hh:S.h id=some (some [r]):=by exact rfl)(hm:m=1:=by exact rfl)(hv:r.drop off=v::cs:=by exact rfl)(hu:bB [d] 0 [v]=([v],[]):=by first|exact rfl|exact SA):bp C f call S g ⟨some d, .load T x,ty,pos,aG,bk⟩=some ⟨[(d,v)],[id],[]⟩:=by subst hm;refine J0 (rows:=[r]) (r:=r) (cs:=[v]) ha.kZ ha.sz hx hh rfl ?_ (by rw[hv];exact hu) rfl;have:=congrArg List.length hv;simp only[H4,Ps]at this;apply QP;omega
theorem b5{m off:Nat}{id:Id}{r cs cs0:List U}[ha:cX C T true m](hx:un g (S.get C x)= .mp id 0 off:=by first|exact rfl|exact ck)(hh:S.h id=some (some [r]):=by exact rfl)(hl:Hb (off+m) r.length=true:=by exact rfl)(hv:(r.drop off).take m=cs0:=by exact spine)(hu:bB [d] 0 cs0=(cs,[]):=by exact D3):bp C f call S g ⟨some d, .load T x,ty,pos,aG,bk⟩=some ⟨[(d, .agg cs)],[id],[]⟩:=J0 (rows:=[r]) (r:=r) ha.kZ ha.sz hx hh rfl hl (by rw[hv];exact hu) rfl
def GG(L:List Nat):Operand->Bool| .tmp ta=>L.contains ta|_=>false
theorem Oe{a:Operand}(hin:GG (C.dY f) a=false):wv C f a=none:=by cases a with|tmp ta=>(simp only[GG]at hin;unfold wv;simp only;rw[if_neg (by rw[hin];simp)])|_=>rfl
theorem jz{bb:Bool}{m ta:Nat}{id:Id}{cs cs' r:List U}[ha:cX C T bb m](hin:(C.dY f).contains ta=true:=by exact rfl)(hx:un true (S.get C (.tmp ta))= .mp id 0 0:=by exact rfl)(hy:un true (S.get C y)=v:=by exact gt)(hc:oV bb v=some cs:=by exact rfl)(bz:cs.length=m:=by exact rfl)(hh:S.h id=some (some [r]):=by exact rfl)(hr:r.length=m:=by exact rfl)(hz:kO cs=cs':=by exact spine)(hi:ew cs'=true:=by exact rfl):bp C f call S true ⟨none, .store T (.tmp ta) y,ty,pos,aG,bk⟩=some ⟨[(ta, .aP cs')],[id],[(id,none)]⟩:=by show n7 C f S true _ T (.tmp ta) (un true (S.get C (.tmp ta))) (un true (S.get C y))=_;rw[hx,hy];have e:wv C f (.tmp ta)=some ta:=by{unfold wv;simp only;rw[if_pos hin]};subst hz;simp[n7,ha.kZ,ha.sz,hc,bz,hh,hr,e,hi]
theorem bq{bb:Bool}{m off:Nat}{ao:Operand}{id:Id}{cs r r':List U}[ha:cX C T bb m](hin:GG (C.dY f) ao=false:=by exact rfl)(hx:un g (S.get C ao)= .mp id 0 off:=by exact rfl)(hy:un g (S.get C y)=v:=by exact gt)(hc:oV bb v=some cs:=by exact rfl)(bz:cs.length=m:=by exact rfl)(hh:S.h id=some (some [r]):=by exact rfl)(hl:Hb (off+m) r.length=true:=by exact rfl)(hq:r.take off++cs++r.drop (off+m)=r':=by exact spine):bp C f call S g ⟨none, .store T ao y,ty,pos,aG,bk⟩=some ⟨[],[id],[(id,some [r'])]⟩:=by show n7 C f S g _ T ao (un g (S.get C ao)) (un g (S.get C y))=_;rw[hx,hy];have hl':off+m<=r.length:=Hc hl;have e:=Oe (f:=f) hin;subst hq;simp only[n7,ha.kZ,ha.sz,hc];rw[if_neg (by simp[bz]),hh];simp only[QQ,AC,if_pos hl',e];rfl
theorem Qu{bb:Bool}{m row off:Nat}{ao:Operand}{id:Id}{cs:List U}{α:Type}{c:α->List U}{q:List α}{r:α}(hr:q[row]? =some r)(r':α)[ha:cX C T bb m](hin:GG (C.dY f) ao=false:=by exact rfl)(hx:un g (S.get C ao)= .mp id row off:=by exact rfl)(hy:un g (S.get C y)=v:=by exact gt)(hc:oV bb v=some cs:=by first|exact rfl|exact ajr)(bz:cs.length=m:=by exact rfl)(hh:S.h id=some (some (q.map c)):=by exact rfl)(hl:Hb (off+m) (c r).length=true:=by exact rfl)(hq:(c r).take off++cs++(c r).drop (off+m)=c r':=by exact rfl):bp C f call S g ⟨none, .store T ao y,ty,pos,aG,bk⟩=some ⟨[],[id],[(id,some ((q.set row r').map c))]⟩:=by show n7 C f S g _ T ao (un g (S.get C ao)) (un g (S.get C y))=_;rw[hx,hy];have hl':off+m<=(c r).length:=Hc hl;have e:=Oe (f:=f) hin;have e2:(q.map c)[row]? =some (c r):=by{simp[hr]};simp only[n7,ha.kZ,ha.sz,hc];rw[if_neg (by simp[bz]),hh];simp only[e2,AC,if_pos hl',e];rw[hq,List.map_set];rfl
theorem Ao{e:TypeId}{m n:Nat}{bb:Bool}{α:Type}{c:α->List U}{q:List α}{i:Int}{r:α}{id:Id}(hi:idx q i=some r)[hu:de C T (.slice e)][hs:cX C e bb m](hx:un g (S.get C x)= .rs id 0 n:=by first|exact rfl|exact ck)(hh:S.h id=some (some (q.map c)):=by exact rfl)(hl:n=q.length:=by exact xp)(hy:un g (S.get C y)= .val (.int k i):=by first|exact rfl|exact ck)(hr:(c r).length=m:=by exact rfl):bp C f call S g ⟨some d, .indexAddr T x y,ty,pos,aG,bk⟩=some ⟨[(d, .mp id i.toNat 0)],[id],[]⟩:=by show n5 C S _ T (un g (S.get C x)) (ek (un g (S.get C y)))=_;have hb:=CB hi;have hn:=td hi;subst hl;simp only[hx,hy,ek,n5,hu.ul,hs.sz];rw[if_pos hb,hh];simp[hn,hr]
section
variable{α:Type}{c:α->List U}{q q' r:List α}{id iX:Id}{e:TypeId}{m n n':Nat}{T cU:TypeId}
abbrev yQ:= @mB
theorem ML{rx:U}{xs ys:Rows}{i1 i2:List Id}(hok:Bm C e m=true)(hu:C.P.underlying T=some (.slice e))(hu1:C.P.underlying cU=some (.slice e))(hx:un g (S.get C x)=rx)(uT:rowsOf S.h rx=some (xs,i1))(hy:rowsOf S.h (un g (S.get C y))=some (ys,i2))(hl:ys.all (·.length==m)=true)(hcell:qB ys=true)(hlen:xs.length+ys.length<=ou)(hn:S.h [d]=none){zb:aJ}(he:yQ S ⟨some d, .call ⟨.builtin .append,⟨[x,y]⟩,⟨[T,cU]⟩⟩,ty,pos,aG,bk⟩ d m rx xs ys i1 i2=some zb):lU C S ⟨some d, .call ⟨.builtin .append,⟨[x,y]⟩,⟨[T,cU]⟩⟩,ty,pos,aG,bk⟩ ⟨[T,cU]⟩ ([x,y].map fun x=>un g (S.get C x))=some zb:=by unfold Bm at hok;split at hok;·{rename_i inf Ja;simp only[GT,beq_iff_eq,decide_eq_true_eq]at hok;obtain⟨⟨⟨k1,k2⟩,cC⟩,iY⟩:=hok;subst k1;have e1:(#[T,cU]:Array TypeId)[0]? =some T:=rfl;have e2:(#[T,cU]:Array TypeId)[1]? =some cU:=rfl;simp only[H2,H3,lU,e1,e2,AC,hu1,yR,hu,Ja,hx,uT,hy];rw[if_pos (by simp only[GT,decide_eq_true_eq];exact⟨⟨⟨⟨⟨⟨hl,k2⟩,cC⟩,iY⟩,hlen⟩,hcell⟩,by rw[hn];rfl⟩)];unfold yQ at he;exact he};·cases hok
theorem MK{rx:U}{xs ys:Rows}{i1 i2:List Id}(hok:Bm C e m=true)(hu:C.P.underlying T=some (.slice e))(hu1:C.P.underlying cU=some (.slice e))(hx:un g (S.get C x)=rx)(uT:rowsOf S.h rx=some (xs,i1))(hy:rowsOf S.h (un g (S.get C y))=some (ys,i2))(hl:ys.all (·.length==m)=true)(hcell:qB ys=true)(hlen:xs.length+ys.length<=ou)(hn:S.h [d]=none)(hfz:(C.dY f).contains d=false){zb:aJ}(he:yQ S ⟨some d, .call ⟨.builtin .append,⟨[x,y]⟩,⟨[T,cU]⟩⟩,ty,pos,aG,bk⟩ d m rx xs ys i1 i2=some zb):bp C f call S g ⟨some d, .call ⟨.builtin .append,⟨[x,y]⟩,⟨[T,cU]⟩⟩,ty,pos,aG,bk⟩=some zb:=by show(lU C S _ _ ([x,y].map fun x=>un g (S.get C x))).bind (qb C f _)=_;have key:lU C S ⟨some d, .call ⟨.builtin .append,⟨[x,y]⟩,⟨[T,cU]⟩⟩,ty,pos,aG,bk⟩ ⟨[T,cU]⟩ ([x,y].map fun x=>un g (S.get C x))=some zb:=ML hok hu hu1 hx uT hy hl hcell hlen hn he;rw[key];simp only[AC,qb,eG,hfz,GE,if_false]
theorem RN{L:Id->Option (Option Rows)}(hh:L id=some (some (q.map c))):rowsOf L (.rs id 0 q.length)=some (q.map c,[id]):=by show(match L id with|some (some rs)=>if 0+q.length<=rs.length then some ((rs.drop 0).take q.length,[id])else none|_=>none)=_;rw[hh];simp only;rw[if_pos (by simp),If,H5 (by simp)]
theorem xC(hr:app q q'=some r)[hu:de C T (.slice e)][hu1:de C cU (.slice e)][hok:sg C e m](hx:un g (S.get C x)= .rs id 0 n:=by exact rfl)(hh:S.h id=some (some (q.map c)):=by exact rfl)(hlen:n=q.length:=by exact xp)(hy:un g (S.get C y)= .sl (q'.map c):=by exact rfl)(hl:∀x,(c x).length=m:=by exact fun _=>rfl)(hcell:qB (q'.map c)=true:=by first|exact Gw|exact rfl)(hn:S.h [d]=none:=by exact rfl)(hfz:(C.dY f).contains d=false:=by exact rfl):bp C f call S g ⟨some d, .call ⟨.builtin .append,⟨[x,y]⟩,⟨[T,cU]⟩⟩,ty,pos,aG,bk⟩=some ⟨[(d, .rs [d] 0 r.length)],[id],[(id,none),([d],some (r.map c))]⟩:=by obtain⟨h1,rfl⟩:=Hl hr;subst hlen;refine MK hok.ao hu.ul hu1.ul hx (RN hh) (by rw[hy];rfl) (yN hl) hcell (by simpa[ou]using h1) hn hfz ?_;simp only[yQ,mB,hh];rw[if_pos (by simp only[GT];refine⟨⟨yN hl,by simp⟩, ?_⟩;cases q<;>simp)];simp[put,QR]
theorem adQ [aay:ud c](hr:app q q'=some r)[hu:de C T (.slice e)][hu1:de C cU (.slice e)][hok:sg C e m](hx:un g (S.get C x)= .rs id 0 n:=by exact rfl)(hh:S.h id=some (some (q.map c)):=by exact rfl)(hlen:n=q.length:=by exact xp)(hy:un g (S.get C y)= .sl (q'.map c):=by exact rfl)(hl:∀x,(c x).length=m:=by exact fun _=>rfl)(hcell:qB (q'.map c)=true:=by first|exact Gw|exact rfl)(hn:S.h [d]=none:=by exact rfl)(hfz:(C.dY f).contains d=true:=by exact rfl):bp C f call S g ⟨some d, .call ⟨.builtin .append,⟨[x,y]⟩,⟨[T,cU]⟩⟩,ty,pos,aG,bk⟩=some ⟨[(d, .sl (r.map c))],[id],[(id,none),([d],none)]⟩:=by obtain⟨h1,rfl⟩:=Hl hr;subst hlen;show(lU C S _ _ ([x,y].map fun x=>un g (S.get C x))).bind (qb C f _)=_;have key:lU C S ⟨some d, .call ⟨.builtin .append,⟨[x,y]⟩,⟨[T,cU]⟩⟩,ty,pos,aG,bk⟩ ⟨[T,cU]⟩ ([x,y].map fun x=>un g (S.get C x))=some ⟨[(d, .rs [d] 0 (q++q').length)],[id],[(id,none),([d],some ((q++q').map c))]⟩:=by{refine ML hok.ao hu.ul hu1.ul hx (RN hh) (by rw[hy];rfl) (yN hl) hcell (by simpa[ou]using h1) hn ?_;simp only[yQ,mB,hh];rw[if_pos (by simp only[GT];refine⟨⟨yN hl,by simp⟩, ?_⟩;cases q<;>simp)];simp[put,QR]};have hi:j9 ((q++q').map c)=true:=by{simp only[j9,IH,Hm];exact fun x _=>aay.im x};rw[key];simp only[AC,qb,eG,hfz,if_true,hi,and_self,put]
theorem adR(hr:app [] q'=some r)[hu:de C T (.slice e)][hu1:de C cU (.slice e)][hok:sg C e m](hx:un g (S.get C x)= .bW:=by exact rfl)(hy:un g (S.get C y)= .sl (q'.map c):=by exact rfl)(hl:∀x,(c x).length=m:=by exact fun _=>rfl)(hcell:qB (q'.map c)=true:=by first|exact Gw|exact rfl)(hn:S.h [d]=none:=by exact rfl)(hfz:(C.dY f).contains d=false:=by exact rfl):bp C f call S g ⟨some d, .call ⟨.builtin .append,⟨[x,y]⟩,⟨[T,cU]⟩⟩,ty,pos,aG,bk⟩=some ⟨[(d, .rs [d] 0 r.length)],[],[([d],some (r.map c))]⟩:=by obtain⟨h1,h2⟩:=Hl hr;simp only[Hk]at h2;subst h2;refine MK (xs:=[]) (i1:=[]) (i2:=[]) hok.ao hu.ul hu1.ul hx rfl (by rw[hy];rfl) (yN hl) hcell (by simpa[ou]using h1) hn hfz ?_;simp[yQ,mB,put]
end
theorem adV{e:TypeId}{m:Nat}{α:Type}{c:α->List U}{c7:α}{fL:List U}{nn:Int}{r:List α}(hr:CR nn c7=some r)(JJ:c c7=fL)[hu:de C T (.slice e)][hok:sg C e m][hz:uv C e fL](hx:un g (S.get C x)= .val (.int k nn):=by exact rfl)(hy:un g (S.get C y)= .val (.int k nn):=by exact rfl)(hzl:fL.length=m:=by exact rfl)(hn:S.h [d]=none:=by exact rfl):bp C f call S g ⟨some d, .makeSlice T x y,ty,pos,aG,bk⟩=some ⟨[(d, .rs [d] 0 r.length)],[],[([d],some (r.map c))]⟩:=by show sN C S _ T (un g (S.get C x)) (un g (S.get C y))=_;unfold CR at hr;split at hr;·{rename_i hp;obtain rfl:Hn nn.toNat c7=r:=by{simpa using hr};have hok:=hok.ao;unfold Bm at hok;split at hok;·{rename_i inf Ja;simp only[Bool.and_eq_true,beq_iff_eq,decide_eq_true_eq]at hok;obtain⟨⟨⟨k1,k2⟩,cC⟩,iY⟩:=hok;simp only[hx,hy,sN,hu.ul,ek,hz.SV,Ja];rw[if_pos (by simp only[Bool.and_eq_true,decide_eq_true_eq];exact⟨⟨⟨⟨by omega,by omega⟩,cC⟩,by omega⟩,by rw[hn];rfl⟩)];simp[put,JJ]};·cases hok};·cases hr
theorem WD{e:TypeId}{bb:Bool}{m len:Nat}{fL:List U}{ps:List (Nat×U)}{rows:Rows}(hu:C.P.underlying T=some (.slice e))(hz:yj C e=some fL)(ha:kK C e=some bb)(hs:gL C e=some m)(h0:(decide (0<m)&&decide (m=fL.length)&&decide (len*m<=1000))=true)(hf:sQ m bb (Hn len fL) ps=some rows):yX C T len ps=some rows:=by simp only[yX,hu,hz,ha,hs,h0,if_true,hf]
theorem fq{e:TypeId}{bb:Bool}{m len:Nat}{fL:List U}{p:List (Nat×Operand)}{ps:List (Nat×U)}{rows aT:Rows}[hu:de C T (.slice e)][hz:kY C e fL][ha:cX C e bb m](hin:(C.dY f).contains d=true:=by exact rfl)(h0:(decide (0<m)&&decide (m=fL.length)&&decide (len*m<=1000))=true:=by exact rfl)(hq:(p.map fun p=>(p.1,un g (S.get C p.2)))=ps:=by exact Gj)(hf:sQ m bb (Hn len fL) ps=some rows:=by exact rfl)(zQ:rows.map kO=aT:=by exact spine)(hi:j9 aT=true:=by exact rfl):bp C f call S g ⟨some d, .buildSlice T len ⟨p⟩,ty,pos,aG,bk⟩=some ⟨[(d, .sl aT)],[],[]⟩:=by show p8 C f S _ T len (p.map fun p=>(p.1,un g (S.get C p.2)))=_;rw[hq];have hb:=WD hu.ul hz.fL ha.kZ ha.sz h0 hf;unfold p8;rw[if_neg (by simp[Hu,hb,zQ,hi])];simp only[sL,hu.ul,hz.fL,ha.kZ,ha.sz,h0,if_true,hf,eG,hin,zQ,hi,PQ];rfl
theorem Ku{e:TypeId}{bb:Bool}{m len:Nat}{fL:List U}{p:List (Nat×Operand)}{ps:List (Nat×U)}{rows aT:Rows}[hu:de C T (.slice e)][hz:kY C e fL][ha:cX C e bb m](hin:(C.dY f).contains d=false:=by exact rfl)(h0:(decide (0<m)&&decide (m=fL.length)&&decide (len*m<=1000))=true:=by exact rfl)(hq:(p.map fun p=>(p.1,un g (S.get C p.2)))=ps:=by exact Gj)(hf:sQ m bb (Hn len fL) ps=some rows:=by exact rfl)(hs:rows=aT:=by exact spine)(hn:S.h [d]=none:=by exact rfl):bp C f call S g ⟨some d, .buildSlice T len ⟨p⟩,ty,pos,aG,bk⟩=some ⟨[(d, .rs [d] 0 len)],[],[([d],some aT)]⟩:=by show p8 C f S _ T len (p.map fun p=>(p.1,un g (S.get C p.2)))=_;subst hs;rw[hq];unfold p8;rw[if_neg (by simp[Hu,eG];intro h;simp[h]at hin)];simp only[sL,hu.ul,hz.fL,ha.kZ,ha.sz,h0,if_true,hf,eG,hin,Pi,GE,if_false];rw[if_pos (Pr hn)];rfl
/-! ### Calls -/
section
variable{L:Id->Option (Option Rows)}{n m:Nat}{α:Type}{c c':α->List U}{q:List α}{id:Id}{as bs cs cs':List U}{is i2:List Id}{x u:U}
theorem MW{a:U}(h:e9 a=true):ct L (n+1) a=some (a,[]):=by cases a with|agg cs=>(simp only[e9]at h;simp[ct,j3,h])|aI cs=>(simp only[e9]at h;simp[ct,j3,h])|fn k a b=>(simp only[e9,GT]at h;simp[ct,j3,h])|_=>first|rfl|simp[e9]at h
theorem WM{w:Value}(hx:x= .val w:=by exact rfl):ct L (n+1) x=some (.val w,[]):=by rw[hx];rfl
theorem WL{r:Rows}(hx:x= .sl r:=by exact rfl):ct L (n+1) x=some (.sl r,[]):=by rw[hx];rfl
theorem WJ(hx:x= .bW:=by exact rfl):ct L (n+1) x=some (.sl [],[]):=by rw[hx];rfl
theorem WH{t:TypeId}{e:bQ}(hx:x=gp t e:=by first|exact rfl|exact GK):ct L (n+1) x=some (gp t e,[]):=by rw[hx];exact MW (Yd e)
theorem WI(hx:x=u:=by exact gt)(hi:e9 u=true:=by exact rfl):ct L (n+1) x=some (u,[]):=by rw[hx];exact MW hi
theorem WK [hc:ud c](hx:x= .rs id 0 m:=by exact rfl)(hh:L id=some (some (q.map c)):=by exact rfl)(hl:m=q.length:=by exact xp):ct L (n+1) x=some (.sl (q.map c),[id]):=by subst hx hl;have hi':j9 (q.map c)=true:=by{simp only[j9,IH,Hm];exact fun x _=>hc.im x};have e:((q.map c).drop 0).take q.length=q.map c:=by{rw[If,H5 (by simp)]};have e0:ct L (n+1) (.rs id 0 q.length)=match L id with|some (some rs)=>if 0+q.length<=rs.length then(oS (ct L n) ((rs.drop 0).take q.length)).map fun x=>(.sl x.1,id::x.2)else none|_=>none:=rfl;rw[e0,hh];simp only;rw[if_pos (by simp),e];simp[oS,hi']
theorem WG(hx:x= .agg cs)(hi:ew cs=false)(h:eu (ct L n) cs=some (cs',is)):ct L (n+1) x=some (.agg cs',is):=by subst hx;simp[ct,j3,hi,h]
end
/-! ### Borrowing lists whose elements own memory -/
class aiJ{α:Type}(c:α->List U)(c':outParam (α->List U)):Prop where ct:∀L n x,eu (ct L (n+2)) (c x)=some (c' x,[])Kn:∀x,ew (c x)=false
section
variable{L:Id->Option (Option Rows)}{n m:Nat}{α:Type}{c c':α->List U}{q:List α}{k:Nat}{x x':α}{r r':List U}{id:Id}{ids:List Id}{v:U}
end
section
variable{α:Type}{c c':α->List U}{q:List α}{L:Id->Option (Option Rows)}{n:Nat}{id:Id}{as bs cs cs':List U}{x:U}{is i2:List Id}
theorem Hx{y:Option (U×List Id)}(h:ct L n x=y:=by repeat'(first|exact WM|exact aiX|exact aiY|(apply aiZ;exact rfl)|exact WH|exact ajc|exact WL|exact WK|exact aje|exact aji|exact ajh|(apply ajf;exact rfl;exact rfl;exact rfl;(first|(with_reducible assumption)|assumption);exact xp;exact inferInstance;rotate_left;exact rfl)|(apply ajg;exact rfl;exact rfl;exact rfl;(first|(with_reducible assumption)|assumption);exact ac6;exact inferInstance;rotate_left;exact rfl)|exact WI|exact ajb|exact WJ|exact ai2|exact ajd|exact ai5|exact ai8|exact aja|exact ai9|exact ai6|exact ai4|exact ai7|exact ai1|exact BN|(apply BM;exact rfl)|(apply WG;exact rfl;exact rfl)|(apply ai3;exact rfl;exact rfl;exact rfl)|(apply ai0;exact rfl))):ct L n x=y:=h
theorem Wx(h:as=[]:=by exact rfl):qS L as=some ([],[]):=by subst h;rfl
theorem Ww{a b:U}{z:List Id}(ha:cs=a::as)(h1:ct L 9 a=some (b,is))(h2:qS L as=some (bs,i2))(hz:is++i2=z):qS L cs=some (b::bs,z):=by subst ha hz;unfold qS at*;simp[eu,h1,h2]
theorem blk{y:Option (List U×List Id)}(h:qS L as=y:=by repeat'(first|exact Wx|(apply Ww;exact rfl;exact Hx)|exact rfl)):qS L as=y:=h
theorem ahR{ms:List Nat}(h:as=[]:=by exact rfl):jW L ms as=some ([],[],[],[]):=by subst h;cases ms<;>rfl
section
variable{ms:List Nat}{a b b':U}{i s t z:List Id}
theorem ahQ(ha:cs=a::as)(h:pk L 9 a=some (b,i))(hf:dy b=b')(k:jW L ms as=some (bs,s,t,z)){u:List Id}(hu:i++z=u):jW L (2::ms) cs=some (b'::bs,s,t,u):=by subst ha hu;simp[jW,k,h,hf]
theorem ahS{u:List Id}(ha:cs=a::as)(h:ct L 9 a=some (b,i))(k:jW L ms as=some (bs,s,t,z))(hu:i++s=u):jW L (0::ms) cs=some (b::bs,u,t,z):=by subst ha hu;simp[jW,k,h]
end
theorem ahT{ms:List Nat}{y:Option (List U×List Id×List Id×List Id)}(h:jW L ms as=y:=by repeat'(first|exact ahR|(apply amL;exact rfl;exact mU)|(apply ahS;exact rfl;exact Hx)|(apply ahQ;exact rfl;exact mU;exact Fb)|(apply amM;exact rfl;exact Hx)|exact rfl)):jW L ms as=y:=h
/-! Nothing from elsewhere -/
end
section
variable{bV:Operand}{ts:Array TypeId}{dc:FuncId}{as bs cs args:List U}{seen:List Id}{r:U}{wr:List (Id×Option Rows)}{xs:Array Operand}
theorem Ip(hfo:un g (S.get C bV)= .fn (.func dc) as bs)(di:C.gC dc=false):kG C (un g (S.get C bV))=none:=by rw[hfo];simp[kG,di]
theorem HT{d':Option Tmp}(h:kG C (un g (S.get C bV))=none):bp C f call S g ⟨d', .call ⟨.value bV,xs,ts⟩,ty,pos,aG,bk⟩=(match pathOf C bV with|some p=>uG S ⟨d', .call ⟨.value bV,xs,ts⟩,ty,pos,aG,bk⟩ p (xs.toList.map fun x=>un g (S.get C x))|none=>if AN C bV then(match(generalizing:=false)bV with| .func k=>qU C f call S ⟨d', .call ⟨.value bV,xs,ts⟩,ty,pos,aG,bk⟩ k (xs.toList.map fun x=>un g (S.get C x))|_=>none)else qT C f call S ⟨d', .call ⟨.value bV,xs,ts⟩,ty,pos,aG,bk⟩ (un g (S.get C bV)) (xs.toList.map fun x=>un g (S.get C x))):=by show(match kG C (un g (S.get C bV))with|some x=>oU C f call S _ x.1 (x.2.1++(xs.toList.map fun x=>un g (S.get C x))++x.2.2)|none=>_)=_;rw[h];first|rfl|(cases bV<;>rfl)
theorem eN(hc:call dc args=some (r,[]))(hfo:un g (S.get C bV)= .fn (.func dc) as bs:=by exact rfl)(hb:qS S.h (as++(xs.toList.map fun x=>un g (S.get C x))++bs)=some (args,seen):=by exact blk)(hm:(seen.isEmpty||mine r)=true:=by first|exact rfl|exact PZ)(hz:(C.dY f).contains d=false:=by exact rfl)(hi:imp [d] r=(v',wr):=by exact zU)(hf:fresh S.h wr=true:=by exact rfl)(ht:AN C bV=false:=by exact rfl)(wU:pathOf C bV=none:=by exact rfl)(hlk:C.look dc=false:=by exact rfl)(di:C.gC dc=false:=by exact rfl):bp C f call S g ⟨some d, .call ⟨.value bV,xs,ts⟩,ty,pos,aG,bk⟩=some ⟨[(d,v')],seen,wr⟩:=by rw[HT (Ip hfo di)];rw[wU];simp only;rw[ht];simp only[GE,if_false];rw[hfo];simp only[qT,hlk,hb,hc,eG,hz,GE,if_false];rw[if_neg (by cases seen with|nil=>(simp)|cons a l=>simp at hm;simp[hm]),hi];simp only[hf,if_true];rfl
theorem aK(hc:call dc args=some (r,[]))(hfo:un g (S.get C bV)= .fn (.func dc) as bs:=by exact rfl)(hb:qS S.h (as++(xs.toList.map fun x=>un g (S.get C x))++bs)=some (args,seen):=by exact blk)(hm:(seen.isEmpty||mine r)=true:=by first|exact rfl|exact PZ)(hz:(C.dY f).contains d=true:=by exact rfl)(hv:dy r=v:=by exact Fb)(hi:imp [d] v=(v',wr):=by exact zU)(hf:fresh S.h wr=true:=by exact rfl)(ht:AN C bV=false:=by exact rfl)(wU:pathOf C bV=none:=by exact rfl)(hlk:C.look dc=false:=by exact rfl)(di:C.gC dc=false:=by exact rfl):bp C f call S g ⟨some d, .call ⟨.value bV,xs,ts⟩,ty,pos,aG,bk⟩=some ⟨[(d,v')],seen,wr⟩:=by rw[HT (Ip hfo di)];rw[wU];simp only;rw[ht];simp only[GE,if_false];rw[hfo];simp only[qT,hlk,GE,if_false,hb,hc,eG,hz,if_true,hv];rw[if_neg (by cases seen with|nil=>(simp)|cons a l=>simp at hm;simp[hm]),hi];simp only[hf,if_true];rfl
theorem WV{ms bX:List Nat}{outs:List U}{tk dz:List Id}{back:List (Id×Option Rows)}{lO:List (Id×Option Rows)}(hm:C.Ai dc=ms)(hm0:ms.isEmpty=false)(hle:C.bX dc=bX)(ht:jW S.h ms (xs.toList.map fun x=>un g (S.get C x))=some (args,seen,tk,dz))(hc:call dc args=some (r,outs))(hv:(if eG C f (some d)then dy r else r)=v)(hb:iN S.h (xs.toList.map fun x=>un g (S.get C x)) bX outs=some back)(h1:(dm (tk++dz)&&qX seen (tk++dz))=true)(h2:(seen.isEmpty||mine r&&outs.all mine)=true)(h3:(dm (back.map (·.1))&&(back.all fun x=>tk.contains x.1))=true)(hi:imp [d] v=(v',lO))(hf:fresh S.h lO=true)(hw:lO++(back++(tk++dz).map fun i=>(i,none))=wr)(wU:C.path dc=none)(di:C.gC dc=false:=by exact rfl):bp C f call S g ⟨some d, .call ⟨.value (.func dc),xs,ts⟩,ty,pos,aG,bk⟩=some ⟨[(d,v')],seen,wr⟩:=by rw[HT (Ip (as:=[]) (bs:=[]) rfl di)];simp only[pathOf,wU];have e0:AN C (.func dc)=true:=by{simp[AN,hm,hm0]};subst hw hm hle hv;rw[e0,if_pos rfl];unfold qU;simp only[ht,hc,hb,hi];simp only[GT]at h1 h3;rw[if_pos (by simp only[GT];exact⟨⟨⟨⟨⟨h1.1,h1.2⟩,h2⟩,h3.1⟩,h3.2⟩,hf⟩)];rfl
end
end
open Go
section
variable{L:Id->Option (Option Rows)}{id:Id}{cs old as bs args:List U}{n m:Nat}{α:Type}{c:α->List U}{q q0:List α}{w w2:List (Id×Option Rows)}{a b:U}{j:Nat}{l:List Nat}
theorem agz(hb:bs=[]:=by exact rfl):iN L args [] bs=some []:=by subst hb;rfl
theorem rlk{y:Option (List (Id×Option Rows))}(h:iN L args l bs=y:=by repeat'(first|exact agz|exact amk|exact amn|exact amm|exact aml (by(first|(with_reducible assumption)|assumption))|exact al4|(apply al3;exact rfl;exact rfl)|(apply amj;exact rfl;exact rfl)|(apply ami;exact rfl)|(apply amb;exact rfl;exact rfl))):iN L args l bs=y:=h
end
section
variable{C:ax}{f:FuncId}{call:eZ}{S:ah}{g:Bool}
variable{d:Nat}{ty:TypeId}{pos:String}{aG:Array Edge}{bk:Option (Nat×Bool)}{v v':U}
theorem rL{xs:Array Operand}{ts:Array TypeId}{dc:FuncId}{ms bX:List Nat}{args outs:List U}{seen tk dz:List Id}{r:U}{back lO wr:List (Id×Option Rows)}(hc:call dc args=some (r,outs))(hm:C.Ai dc=ms:=by exact rfl)(hm0:ms.isEmpty=false:=by exact rfl)(hle:C.bX dc=bX:=by exact rfl)(ht:jW S.h ms (xs.toList.map fun x=>un g (S.get C x))=some (args,seen,tk,dz):=by exact ahT)(hz:(C.dY f).contains d=true:=by exact rfl)(hv:dy r=v:=by exact Fb)(hb:iN S.h (xs.toList.map fun x=>un g (S.get C x)) bX outs=some back:=by exact rlk)(h1:(dm (tk++dz)&&qX seen (tk++dz))=true:=by exact rfl)(h2:(seen.isEmpty||mine r&&outs.all mine)=true:=by first|exact rfl|exact akt PZ alj)(h3:(dm (back.map (·.1))&&(back.all fun x=>tk.contains x.1))=true:=by exact rfl)(hi:imp [d] v=(v',lO):=by exact zU)(hf:fresh S.h lO=true:=by exact rfl)(hw:lO++(back++(tk++dz).map fun i=>(i,none))=wr:=by exact spine)(wU:C.path dc=none:=by exact rfl)(di:C.gC dc=false:=by exact rfl):bp C f call S g ⟨some d, .call ⟨.value (.func dc),xs,ts⟩,ty,pos,aG,bk⟩=some ⟨[(d,v')],seen,wr⟩:=WV hm hm0 hle ht hc (v:=v) (by simp only[eG,hz,if_true,hv]) hb h1 h2 h3 hi hf hw wU di
end
theorem qY{C:ax}{f:FuncId}{a b:Nat}{args:List U}{r:Option (U×List U)}(h:den C a f args=r)(e:a=b):den C b f args=r:=e▸h
/-! ### Functions -/
def vg:List U->U|[r]=>r|vs=> .aI vs
def Fin(C:ax)(rv:List ResultVar)(bX:List Nat)(r:U)(outs:List U)(x:Exit×ah):Prop:=(x.1= .ret∨x.1= .normal)∧∃vs ids is,kA C x.2 rv=some (vs,ids)∧jC x.2.h x.2.t bX=some (outs,is)∧dm (ids++is)=true∧vg vs=r
section
variable{C:ax}{f:FuncId}{call:eZ}{S:ah}{T:TypeId}
variable{rv:List ResultVar}{bX:List Nat}{vs outs cs r:List U}{ids is:List Id}{v v':U}
theorem agI:kA C S []=some ([],[]):=rfl
theorem agK{t:Nat}(h:pk S.h 9 (un true (S.t t))=some (v,ids))(hr:kA C S rv=some (vs,is)):kA C S (.tmp t::rv)=some (v::vs,ids++is):=by show(vt C S (.tmp t)).bind _=_;simp only[vt,h,AC,hr,Ha]
theorem agJ{a m:Nat}{id:Id}{bb:Bool}[ha:cX C T bb m](hx:un true (S.t a)= .mp id 0 0)(hh:S.h id=some (some [r]))(hl:Hb m r.length=true)(hv:jx bb (r.take m)=some v)(h:pk S.h 9 v=some (v',ids))(hr:kA C S rv=some (vs,is)):kA C S (.cell a T::rv)=some (v'::vs,id::ids++is):=by show(vt C S (.cell a T)).bind _=_;have hl':0+m<=r.length:=by{have:=Hc hl;omega};simp only[vt,ha.kZ,ha.sz,hx,hh,QQ,if_pos hl',If,hv,AC,h,hr,Ha]
theorem FY{cells:List U}(hc:cells=cs:=by exact spine):jx true cells=some (.agg cs):=by subst hc;rfl
theorem Le{y:Option (List U×List Id)}(h:kA C S rv=y:=by repeat'(first|with_reducible exact agI|((with_reducible apply agK);exact mU)|((with_reducible apply agJ);exact rfl;exact rfl;exact rfl;(first|exact FY|exact Kf rfl);exact mU)|((with_reducible apply amh);exact rfl;exact rfl;(first|exact FY|exact Kf rfl);exact mU))):kA C S rv=y:=h
theorem fin{r:U}(h:kA C S rv=some (vs,ids):=by exact Le)(hp:jC S.h S.t bX=some (outs,is):=by exact Gh)(hn:dm (ids++is)=true:=by exact rfl)(hr:vg vs=r:=by exact rfl):Fin C rv bX r outs (.ret,S):=⟨.inl rfl,vs,ids,is,h,hp,hn,hr⟩
theorem cH{fn:Func}{c:Code}{args:List U}{nn N:Nat}{r:U}{t:Nat->U}{h:Id->Option (Option Rows)}{sl:List Nat}(hf:C.P.funcs[f]? =some fn)(hn:fn.ntmps=N)(hr:fn.results.toList=rv)(k:W C f (den C nn) c ⟨N,t,h⟩ (Fin C rv bX r outs))(hb:fn.body=some c:=by exact rfl)(he:C.ext f=none:=by exact rfl)(hle:C.bX f=bX:=by exact rfl)(hl:Hb args.length N=true:=by exact rfl)(jM:H1 args.length=sl:=by exact rfl)(hm:aA N sl args=⟨N,t,h⟩:=by exact Kg)(di:C.gC f=false:=by exact rfl):den C (nn+1) f args=some (r,outs):=by obtain⟨⟨e,s⟩,h1,h2,vs,ids,is,h3,h6,h4,h5⟩:=k;subst hr hn hle jM;show q4 C (den C nn) kf f args=_;unfold q4;simp only[he,hf,hb,di,GE,if_false,if_pos (Hc hl),hm,h1,AC];have cz:finish C fn (C.bX f) args s=some (r,outs):=by{unfold finish;simp only at h3 h6;rw[h3,h6];simp only[h4,if_true];rw[<-h5];congr 2;cases vs with|nil=>(rfl)|cons a l=>cases l<;>rfl};rcases h2 with h2|h2;·{simp only at h2;subst h2;exact cz};·simp only at h2;subst h2;exact cz
end
/-! ### Loops -/
def cA.go{bF ρ ρ':Type}(kb:bF->Option ρ)(Ac:ρ'->Option ρ):cA bF ρ'->Option ρ| .dH x=>kb x| .ret r=>Ac r
section
variable{C:ax}{f:FuncId}{call:eZ}{S:ah}{Q:Exit×ah->Prop}{c:Code}{σ bF ρ ρ':Type}{r:ρ}{k:Nat}{o:Option (Bool×List Nat)}{rep:σ->ah}[ni]
def ue(o:Option (Bool×List Nat))(rep:σ->ah)(Rel:bF->Exit×ah->Prop)(y:b6 σ bF)(x:Exit×ah):Prop:=match y with| .next s'=>x.1= .normal∧dX o x.2=some (rep s')| .out v=>x.1≠ .normal∧Rel v x
def uM(C:ax)(f:FuncId)(c:Code):Option (Bool×List Nat):=match mG c with|some i=>some (C.shr f i,C.live f i)|none=>some (false,[])
theorem PS{step:σ->Option (b6 σ bF)}(Rel:bF->Exit×ah->Prop){fU:σ}{v:bF}(hL:Loop step fU=some v)(h0:dX (uM C f c) S=some (rep fU))
  (body:∀s y,step s=some y->W C f call c (rep s) (ue (uM C f c) rep Rel y)):∃x,b7 C f call kf (.loop c) S=some x∧Rel v x:=by
 obtain⟨m,hm⟩:=En hL
 have key:∀(b:Bool)(slots:List Nat),uM C f c=some (b,slots)->(match mG c with|some i=>C.live f i|none=>[])=slots->(match mG c with|some i=>C.shr f i|none=>false)=b->∃x,b7 C f call kf (.loop c) S=some x∧Rel v x:=by
  intro b slots hk hs hb
  rw[hk]at h0 body
  cases b with
  |true=>
   have key:∀m s,LoopN step m s=some v->∃x,kf ah (fun S'=>b7 C f call kf c S') (fun S'=>norm S' slots) (rep s)=some x∧Rel v x:=by
    intro m
    induction m with
    |zero=>intro s h;simp[LoopN]at h
    |succ m ih=>
     intro s h
     simp only[LoopN,Hd]at h
     obtain⟨y,h1,h2⟩:=h
     obtain⟨⟨e,S'⟩,h3,h4⟩:=body s y h1
     rw[PT]
     simp only[h3,AC]
     cases y with
     |next s'=>
      obtain⟨rfl,h5⟩:=h4
      have h5:norm S' slots=some (rep s'):=h5
      simp only[h5,AC]
      exact ih s' h2
     |out o'=>
      obtain⟨h5,h6⟩:=h4
      obtain rfl:o'=v:=by simpa using h2
      cases e with
      |normal=>exact absurd rfl h5
      |_=>exact⟨_,rfl,h6⟩
   obtain⟨x,h3,h4⟩:=key m fU hm
   refine⟨x, ?_,h4⟩
   subst hs
   simp only[b7]
   refine(if_pos hb).trans ?_
   exact(congrArg (RK · _) (show norm S _=some (rep fU)from h0)).trans h3
  |false=>
   have h0:(jd S slots).map (aA S.n slots)=some (rep fU):=h0
   obtain⟨ah4,ZH,ZI⟩:=Option.map_eq_some_iff.1 h0
   have hn:∀s,(∃tW,aA S.n slots tW=rep s)->(rep s).n=S.n:=fun s⟨tW,h⟩=>by rw[<-h,Ag]
   have key:∀m s tW,aA S.n slots tW=rep s->LoopN step m s=some v->∃x,kf (List U) (fun bK=>b7 C f call kf c (aA S.n slots bK)) (fun S'=>jd S' slots) tW=some x∧Rel v x:=by
    intro m
    induction m with
    |zero=>intro s tW _ h;simp[LoopN]at h
    |succ m ih=>
     intro s tW Pe h
     simp only[LoopN,Hd]at h
     obtain⟨y,h1,h2⟩:=h
     obtain⟨⟨e,S'⟩,h3,h4⟩:=body s y h1
     rw[PT]
     simp only[Pe,h3,AC]
     cases y with
     |next s'=>
      obtain⟨rfl,h5⟩:=h4
      have h5:(jd S' slots).map (aA S'.n slots)=some (rep s'):=h5
      obtain⟨ah3,ZO,Ov⟩:=Option.map_eq_some_iff.1 h5
      have sV:S'.n=S.n:=by rw[EY Ae _ _ _ h3];exact hn s ⟨tW,Pe⟩
      rw[sV]at Ov
      simp only[ZO,AC]
      exact ih s' ah3 Ov h2
     |out o'=>
      obtain⟨h5,h6⟩:=h4
      obtain rfl:o'=v:=by simpa using h2
      cases e with
      |normal=>exact absurd rfl h5
      |_=>exact⟨_,rfl,h6⟩
   obtain⟨x,h3,h4⟩:=key m fU ah4 ZI hm
   refine⟨x, ?_,h4⟩
   subst hs
   simp only[b7]
   refine(if_neg fun e=>Nm (hb.symm.trans e)).trans ?_
   exact(congrArg (RK · _) ZH).trans h3
 unfold uM at key
 split at key
 ·exact key _ _ rfl rfl rfl
 ·exact key _ _ rfl rfl rfl
def Ep(C:ax)(f:FuncId)(k:Nat)(kz:bF->ah)(v:bF)(x:Exit×ah):Prop:=x.1= .exit k∧dX (C.oW f k) x.2=some (kz v)
def Bd(C:ax)(f:FuncId)(k:Nat)(kz:bF->ah)(R:ρ'->Exit×ah->Prop):cA bF ρ'->Exit×ah->Prop| .dH v,x=>Ep C f k kz v x| .ret r,x=>R r x
theorem bI{step:σ->Option (b6 σ bF)}{fU:σ}{tZ:bF->Option ρ}(rep:σ->ah)(kz:bF->ah)(hF:(Loop step fU).bind tZ=some r)(h0:dX (uM C f c) S=some (rep fU))(body:∀s y,step s=some y->W C f call c (rep s) (ue (uM C f c) rep (Ep C f k kz) y))(post:∀v,tZ v=some r->Q (.normal,kz v)):W C f call (.block k (.loop c)) S Q:=by obtain⟨v,h1,h2⟩:=ED hF;obtain⟨⟨e,S'⟩,h3,rfl,h5⟩:=PS (Ep C f k kz) h1 h0 body;exact cn ⟨_,h3,Ri h5 (post v h2)⟩
theorem kg{step:σ->Option (b6 σ (cA bF ρ'))}{fU:σ}{kb:bF->Option ρ}{Ac:ρ'->Option ρ}(rep:σ->ah)(kz:bF->ah)(R:ρ'->Exit×ah->Prop)(hF:(Loop step fU).bind (cA.go kb Ac)=some r)(h0:dX (uM C f c) S=some (rep fU))(body:∀s y,step s=some y->W C f call c (rep s) (ue (uM C f c) rep (Bd C f k kz R) y))(post:∀v,kb v=some r->Q (.normal,kz v))(q8:∀v,Ac v=some r->∀x,R v x->oP C f k Q x):W C f call (.block k (.loop c)) S Q:=by obtain⟨v,h1,h2⟩:=ED hF;obtain⟨x,h3,h4⟩:=PS (Bd C f k kz R) h1 h0 body;cases v with|dH v=>(obtain⟨e,S'⟩:=x;obtain⟨rfl,h5⟩:=h4;exact cn ⟨_,h3,Ri h5 (post v h2)⟩)|ret v=>exact cn ⟨_,h3,q8 v h2 _ h4⟩
variable{Rel:bF->Exit×ah->Prop}{kz:bF->ah}{R:ρ'->Exit×ah->Prop}
theorem ln{s':σ}{y:b6 σ bF}(hy:some (b6.next s')=some y)(hc:dX o S=some (rep s')):ue o rep Rel y (.normal,S):=by cases hy;exact⟨rfl,hc⟩
theorem lx{v:bF}{y:b6 σ bF}(hy:some (b6.out v)=some y)(hc:dX (C.oW f k) S=some (kz v)):ue o rep (Ep C f k kz) y (.exit k,S):=by cases hy;exact⟨by simp,rfl,hc⟩
theorem l6{v:bF}{y:b6 σ (cA bF ρ')}(hy:some (b6.out (cA.dH v))=some y)(hc:dX (C.oW f k) S=some (kz v)):ue o rep (Bd C f k kz R) y (.exit k,S):=by cases hy;exact⟨by simp,rfl,hc⟩
theorem lr{v:ρ'}{y:b6 σ (cA bF ρ')}(hy:some (b6.out (cA.ret v))=some y)(h:R v (.ret,S)):ue o rep (Bd C f k kz R) y (.ret,S):=by cases hy;exact⟨by simp,h⟩
theorem lrr{v:ρ'}{y:b6 σ (cA bF ρ')}{x:Exit×ah}(hy:some (b6.out (cA.ret v))=some y)(hx:x.1≠ .normal)(h:R v x):ue o rep (Bd C f k kz R) y x:=by cases hy;exact⟨hx,h⟩
end
theorem inj{α:Type}{a b:α}(h:some a=some b):a=b:=Ix h
open Go
/-! ### Operations -/
section
variable{C:ax}{f:FuncId}{call:eZ}{S:ah}{g:Bool}
variable{d:Nat}{ty:TypeId}{pos:String}{aG:Array Edge}{bk:Option (Nat×Bool)}{v v':U}
variable{x y z:Operand}{k:IntKind}{a b:Int}{T cU:TypeId}
end
/-! ### At a function's end -/
section
variable{C:ax}{S:ah}{rv:List ResultVar}{bX:List Nat}{vs outs:List U}{ids is:List Id}{r:U}
theorem bJ(h:kA C S rv=some ([r],ids):=by exact Le)(hp:jC S.h S.t bX=some (outs,is):=by exact Gh)(hn:dm (ids++is)=true:=by exact rfl):Fin C rv bX r outs (.ret,S):=⟨.inl rfl,[r],ids,is,h,hp,hn,rfl⟩
theorem cG{a b:U}(h:kA C S rv=some (a::b::vs,ids):=by exact Le)(hp:jC S.h S.t bX=some (outs,is):=by exact Gh)(hn:dm (ids++is)=true:=by exact rfl):Fin C rv bX (.aI (a::b::vs)) outs (.ret,S):=⟨.inl rfl,_,ids,is,h,hp,hn,rfl⟩
end
end Go.Ab
