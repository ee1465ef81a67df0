import Derived.Test.YtbbhbdlljfffdaaGreatDoorAbFn
import Derived.Test.YtbbhbdlljfffdaaGreatDoorAbSimp
open Bool renaming false_eq_true->GE,and_eq_true->GT,noConfusion->PH,and_self->Pi,false_and->Ps
open Classical renaming choose_spec->Lk
open List renaming nil_append->Hk,all_eq_true->Hm,replicate->Hn,foldl->H0,range->H1,map_cons->H2,map_nil->H3,length_drop->H4,take_of_length_le->H5,all_map->IH,drop_zero->If,isEmpty_cons->Nm,append_nil->PP,length_cons->QP,getElem?_cons_zero->QR,map_append->RK
open Nat renaming blt->Do,ble->Ha,le_of_ble_eq_true->Hc,ble_eq_true_of_le->QQ
open Option renaming bind_some->AC,map_some->Hb,bind_eq_some_iff->Hd,map_eq_some_iff->PQ,bind->R0
open Option.some renaming inj->Ix,injEq->Kd
set_option linter.all false
namespace Go.Ab
open Go
abbrev gK:=FuncId->List U->Option (U×List U)
abbrev bw(n:Int):Int:=IntKind.i64.wrap n
def idx{α:Type}(l:List α)(i:Int):Option α:=if 0<=i then l[i.toNat]? else none
theorem afQ{α β:Type}{c:α->β}{l:List α}{i:Int}{x:α}(h:idx l i=some x):idx (l.map c) i=some (c x):=by unfold idx at*;split at h;·{rw[if_pos ‹_›];simp[h]};·cases h
theorem vi{α:Type}{l:List α}{i:Int}{x:α}(h:idx l i=some x):l[i.toNat]? =some x:=by unfold idx at h;split at h;·{exact h};·cases h
theorem MB{α:Type}{l:List α}{i:Int}{x:α}(h:idx l i=some x):0<=i∧i<(l.length:Nat):=by unfold idx at h;split at h;·{rename_i hp;refine⟨hp, ?_⟩;rcases Nat.lt_or_ge i.toNat l.length with h'|h';·{omega};·rw[List.getElem?_eq_none h']at h;cases h};·cases h
theorem Hv{α β:Type}{o:Option α}{k:α->Option β}{r:β}(h:o.bind k=some r):∃x,o=some x∧k x=some r:=Option.bind_eq_some_iff.1 h
theorem bb{α β:Type}{o:Option α}{k:α->Option β}{r:β}{G:Prop}(h:o.bind k=some r)(g:∀x,o=some x->k x=some r->G):G:=by obtain⟨x,h1,h2⟩:=Hv h;exact g x h1 h2
def W(C:aF)(f:FuncId)(call:gK)(c:Code)(S:aj)(Q:Exit×aj->Prop):Prop:=∃x,c6 C f call lZ c S=some x∧Q x
theorem ar{P:Prop}(h:P:=by exact rfl):P:=h
def eS(C:aF)(f:FuncId)(call:gK)(ops:Array Oper)(m:Option (List Nat))(i:Nat)(l:List Oper)(ks:List eO)(S:aj)(K:List eO->aj->Prop)(Z:List eO->pW->Prop):Prop:=∃x,jU C f call ops m i l S=some x∧match x.1 with| .inl S'=>K (ks++x.2) S'| .inr p=>Z (ks++x.2) p
def z8(_:List eO)(_:pW):Prop:=False
abbrev og(C:aF)(f:FuncId)(call:gK)(ops:Array Oper)(l:List Oper)(S:aj)(K:List eO->aj->Prop):Prop:=eS C f call ops none 0 l [] S K z8
theorem Bf{C:aF}{f:FuncId}{call:gK}{ops:Array Oper}{l:List Oper}{S:aj}{K:List eO->aj->Prop}(h:og C f call ops l S K):∃x,mA C f call ops 0 l S=some x∧K ([]++x.2) x.1:=by obtain⟨⟨z,ks⟩,h1,h2⟩:=h;cases z with|inl S'=>(exact⟨(S',ks),KT h1,h2⟩)|inr p=>exact h2.elim
/-! ### Loops -/
inductive cx(σ cv:Type)where|next(s:σ)|out(x:cv)
inductive cH(cv ρ:Type)where|dP(x:cv)|ret(r:ρ)
def LoopN{σ cv:Type}(step:σ->Option (cx σ cv)):Nat->σ->Option cv|0,_=>none|m+1,s=>(step s).bind fun y=>match y with| .next s'=>LoopN step m s'| .out x=>some x
open Classical in noncomputable def Dr{σ cv:Type}(step:σ->Option (cx σ cv))(s:σ):Option cv:=if h:∃x m,LoopN step m s=some x then some (Classical.choose h)else none
theorem JR{σ cv:Type}{step:σ->Option (cx σ cv)}:∀{m:Nat}{s:σ}{x:cv}(k:Nat),LoopN step m s=some x->LoopN step (m+k) s=some x|0,_,_,_,h=>by{simp[LoopN]at h}|m+1,s,x,k,h=>by rw[Nat.add_right_comm];simp only[LoopN,Hd]at h|-;obtain⟨y,h1,h2⟩:=h;refine⟨y,h1, ?_⟩;cases y with|next s'=>(exact JR k h2)|out x=>exact h2
theorem V1{σ cv:Type}{step:σ->Option (cx σ cv)}{m m':Nat}{s:σ}{x y:cv}(h1:LoopN step m s=some x)(h2:LoopN step m' s=some y):x=y:=by have e1:=JR m' h1;have e2:=JR m h2;rw[Nat.add_comm]at e2;rw[e1]at e2;exact Ix e2
theorem V0{σ cv:Type}{step:σ->Option (cx σ cv)}{s:σ}{x:cv}(h:Dr step s=some x):∃m,LoopN step m s=some x:=by unfold Dr at h;split at h;·{rename_i hx;simp only[Kd]at h;subst h;exact Lk hx};·cases h
class mq where
 cw:∀{σ cv:Type},(σ->Option (cx σ cv))->σ->Option cv
 ok:∀{σ cv:Type}{step:σ->Option (cx σ cv)}{s:σ}{x:cv},cw step s=some x->∃m,LoopN step m s=some x
noncomputable instance agS:mq:=⟨Dr,V0⟩
def Loop [mq]{σ cv:Type}(step:σ->Option (cx σ cv))(s:σ):Option cv:=mq.cw step s
theorem GX [mq]{σ cv:Type}{step:σ->Option (cx σ cv)}{s:σ}{x:cv}(h:Loop step s=some x):∃m,LoopN step m s=some x:=mq.ok h
theorem JS{σ cv:Type}{step:σ->Option (cx σ cv)}{m:Nat}{s:σ}{x:cv}(h:LoopN step m s=some x):Loop step s=some x:=by show Dr step s=some x;unfold Dr;have hx:∃x m,LoopN step m s=some x:=⟨x,m,h⟩;rw[dif_pos hx];obtain⟨m',h'⟩:=Lk hx;rw[V1 h' h]
theorem cC{σ cv:Type}(step:σ->Option (cx σ cv))(s:σ):Loop step s=(step s).bind fun y=>match y with| .next s'=>Loop step s'| .out x=>some x:=by apply Option.ext;intro x;constructor;·{intro h;obtain⟨m,h⟩:=GX h;cases m with|zero=>(simp[LoopN]at h)|succ m=>simp only[LoopN,Hd]at h|-;obtain⟨y,h1,h2⟩:=h;refine⟨y,h1, ?_⟩;cases y with|next s'=>(exact JS h2)|out x=>exact h2};·intro h;simp only[Hd]at h;obtain⟨y,h1,h2⟩:=h;cases y with|next s'=>(obtain⟨m,h3⟩:=GX h2;exact JS (m:=m+1) (by simp only[LoopN,h1,AC,h3]))|out x=>exact JS (m:=1) (by simp only[LoopN,h1,AC];exact h2)
section
variable{C:aF}{f:FuncId}{call:gK}{S:aj}{n:Nat}{t:Nat->U}{h:Id->Option (Option Rows)}
variable{Q:Exit×aj->Prop}{a b c:Code}{ρ:Type}{r:ρ}{l:List Oper}{id k:Nat}
/-! ### Code -/
def Dw(C:aF)(f:FuncId)(call:gK)(b:Code)(Q:Exit×aj->Prop)(x:Exit×aj):Prop:=match x.1 with| .normal=>∃S',fR (kr C f b) x.2=some S'∧W C f call b S' Q|_=>Q x
theorem sq(h:W C f call a S (Dw C f call b Q)):W C f call (.seq a b) S Q:=by obtain⟨⟨e,s⟩,h1,h2⟩:=h;cases e with|normal=>(obtain⟨S',h5,y,h3,h4⟩:=h2;exact⟨y,by simp only[c6,h1,AC,h5,h3],h4⟩)|_=>exact⟨_,by simp only[c6,h1,AC],h2⟩
theorem aC(h:W C f call b S Q)(hk:kr C f b=none:=by exact rfl):Dw C f call b Q (.normal,S):=⟨S,by rw[hk];rfl,h⟩
theorem bk(h:Q (.ret,S)):Dw C f call b Q (.ret,S):=h
theorem fB(h:Q (.exit k,S)):Dw C f call b Q (.exit k,S):=h
theorem cd{x:Operand}{p:Bool}{A B:Option ρ}(hF:(if p=true then A else B)=some r)(h1:A=some r->W C f call a S Q)(h2:B=some r->W C f call b S Q)(hc:un true (S.get C x)= .val (.bool p):=by exact rfl):W C f call (.cond x a b) S Q:=by cases p with|true=>(obtain⟨y,h3,h4⟩:=h1 (by simpa using hF);exact⟨y,by simp only[c6,hc];simpa using h3,h4⟩)|false=>obtain⟨y,h3,h4⟩:=h2 (by simpa using hF);exact⟨y,by simp only[c6,hc];simpa using h3,h4⟩
theorem aaI{x:Operand}(h1:W C f call a S Q)(hc:un true (S.get C x)= .val (.bool true):=by exact rfl):W C f call (.cond x a b) S Q:=by obtain⟨y,h3,h4⟩:=h1;exact⟨y,by simp only[c6,hc];simpa using h3,h4⟩
theorem aaH{x:Operand}(h1:W C f call b S Q)(hc:un true (S.get C x)= .val (.bool false):=by exact rfl):W C f call (.cond x a b) S Q:=by obtain⟨y,h3,h4⟩:=h1;exact⟨y,by simp only[c6,hc];simpa using h3,h4⟩
theorem sk(h:Q (.normal,S)):W C f call .skip S Q:=⟨_,rfl,h⟩
theorem rt(h:Q (.ret,S)):W C f call .ret S Q:=⟨_,rfl,h⟩
theorem ex(h:Q (.exit k,S)):W C f call (.exit k) S Q:=⟨_,rfl,h⟩
def qF(C:aF)(f:FuncId)(k:Nat)(Q:Exit×aj->Prop)(x:Exit×aj):Prop:=match x.1 with| .normal=>∃S',fR (C.qO f k) x.2=some S'∧Q (.normal,S')| .exit j=>if j=k then∃S',fR (C.qO f k) x.2=some S'∧Q (.normal,S')else Q (.exit j,x.2)|_=>Q x
theorem cF(h:W C f call c S (qF C f k Q)):W C f call (.block k c) S Q:=by obtain⟨⟨e,s⟩,h1,h2⟩:=h;cases e with|normal=>(obtain⟨S',h3,h4⟩:=h2;exact⟨_,by simp only[c6,h1,AC,h3,Hb],h4⟩)|exit j=>(simp only[qF]at h2;split at h2;·{rename_i hj;obtain⟨S',h3,h4⟩:=h2;exact⟨_,by simp only[c6,h1,AC,hj,if_true,h3,Hb],h4⟩};·rename_i hj;exact⟨_,by simp only[c6,h1,AC,hj,if_false],h2⟩)|_=>exact⟨_,by simp only[c6,h1,AC],h2⟩
theorem ck(h:Q (.normal,S))(hk:C.qO f k=none:=by exact rfl):qF C f k Q (.normal,S):=⟨S,by rw[hk];rfl,h⟩
theorem cD(h:Q (.ret,S)):qF C f k Q (.ret,S):=h
theorem CI(h:Q (.normal,S))(hk:C.qO f k=none:=by exact rfl):qF C f k Q (.exit k,S):=by simp only[qF,if_true];exact⟨S,by rw[hk];rfl,h⟩
theorem ajD{j:Nat}(h:Q (.exit j,S))(hj:Nat.beq j k=false:=by exact rfl):qF C f k Q (.exit j,S):=by have:j≠k:=fun e=>by{subst e;simp at hj};simpa[qF,this]using h
/-! ### Places where the state is told anew -/
theorem Up{S':aj}(hc:fR (C.qO f k) S=some S')(h:Q (.normal,S')):qF C f k Q (.exit k,S):=by simp only[qF,if_true];exact⟨S',hc,h⟩
def Dv(σ:Type)(o:Option (Bool×List Nat))(rep:σ->aj)(oU:σ->Option ρ)(r:ρ)(Q:Exit×aj->Prop)(x:Exit×aj):Prop:=match x.1 with| .normal=>∃s,fR o x.2=some (rep s)∧oU s=some r|_=>Q x
theorem e5{σ:Type}(rep:σ->aj)(oU:σ->Option ρ)(ha:W C f call a S (Dv σ (kr C f b) rep oU r Q))(hk:∀s,oU s=some r->W C f call b (rep s) Q):W C f call (.seq a b) S Q:=by refine sq ?_;obtain⟨⟨e,s⟩,h1,h2⟩:=ha;refine⟨_,h1, ?_⟩;cases e with|normal=>(obtain⟨s,h3,h4⟩:=h2;exact⟨_,h3,hk s h4⟩)|_=>exact h2
theorem bR{σ:Type}{o:Option (Bool×List Nat)}{rep:σ->aj}{oU:σ->Option ρ}(s:σ)(hF:oU s=some r)(hc:fR o S=some (rep s)):Dv σ o rep oU r Q (.normal,S):=⟨s,hc,hF⟩
theorem jZ{σ:Type}{o:Option (Bool×List Nat)}{rep:σ->aj}{oU:σ->Option ρ}(h:Q (.ret,S)):Dv σ o rep oU r Q (.ret,S):=h
theorem ajG{σ:Type}{o:Option (Bool×List Nat)}{rep:σ->aj}{oU:σ->Option ρ}(h:Q (.exit k,S)):Dv σ o rep oU r Q (.exit k,S):=h
section
variable{σ:Type}{rep:σ->aj}{oU:σ->Option ρ}
end
/-! ### Regions -/
section
variable{K:List eO->aj->Prop}{Z:List eO->pW->Prop}{m:Option (List Nat)}{ops:Array Oper}{i:Nat}{ks:List eO}
def uC(C:aF)(f:FuncId)(call:gK)(id:Nat)(ops:Array Oper)(draw:Bool)(S:aj)(Q:Exit×aj->Prop):Prop:=∃S',(o5 C f call id ops draw S).bind (mz C f id)=some S'∧Q (.normal,S')
def yz(C:aF)(f:FuncId)(id:Nat)(P:aj->Prop)(ks:List eO)(S:aj):Prop:=nP (C.gb f id) ks=true∧P S
def yx(l:List Nat)(K:aj->Prop)(S:aj):Prop:=∃S',k4 l S=some S'∧K S'
def nJ(p:Nat)(lo z1:List Nat)(K:aj->Prop)(S:aj):Prop:=∃S',nW p lo S=some S'∧yx z1 K S'
theorem w0{ops:Array Oper}{jH:Bool}(h:uC C f call id ops jH S Q)(ha:C.mD f id=[]:=by exact rfl)(hn:C.nt f id=false:=by exact rfl):W C f call (.region id ops jH) S Q:=by obtain⟨S',h1,h2⟩:=h;exact⟨_,by simp[c6,hn,ha,k4,h1],h2⟩
theorem VI{ops:Array Oper}{jH:Bool}(h:yx (C.mD f id) (fun iA=>uC C f call id ops jH iA Q) S)(hn:C.nt f id=false:=by exact rfl):W C f call (.region id ops jH) S Q:=by obtain⟨iA,h0,S',h1,h2⟩:=h;exact⟨_,by simp[c6,hn,h0,h1],h2⟩
theorem iw{ops:Array Oper}{jH:Bool}(h:uC C f call id ops jH S fun x=>W C f call b x.2 Q)(ha:C.mD f id=[])(hk2:kr C f b=none)(hn:C.nt f id=false):W C f call (.seq (.region id ops jH) b) S Q:=sq (w0 (hn:=hn) (by obtain⟨S',h1,h2⟩:=h;exact⟨S',h1,aC h2 hk2⟩) ha)
theorem C2{ops:Array Oper}{jH:Bool}(h:yx (C.mD f id) (fun iA=>uC C f call id ops jH iA fun x=>W C f call b x.2 Q) S)(hk2:kr C f b=none:=by exact rfl)(hn:C.nt f id=false:=by exact rfl):W C f call (.seq (.region id ops jH) b) S Q:=sq (VI (hn:=hn) (by obtain⟨iA,h0,S',h1,h2⟩:=h;exact⟨iA,h0,S',h1,aC h2 hk2⟩))
theorem QF(h:og C f call ⟨l⟩ l S fun _ S'=>Q (.normal,S'))(hk:C.j8 f id=none:=by exact rfl)(hz:C.k6 f id=[]:=by exact rfl)(ho:C.jW f id=[]:=by exact rfl):uC C f call id ⟨l⟩ false S Q:=by obtain⟨x,h1,h2⟩:=Bf h;exact⟨_,by simp[o5,h1,hk,fR,mz,hz,ho,k4,nW],h2⟩
theorem QG(h:og C f call ⟨l⟩ l S (yz C f id fun S'=>Q (.normal,S')))(hk:C.j8 f id=none:=by exact rfl)(hz:C.k6 f id=[]:=by exact rfl)(ho:C.jW f id=[]:=by exact rfl):uC C f call id ⟨l⟩ true S Q:=by obtain⟨x,h1,h2,h3⟩:=Bf h;simp only[Hk]at h2;exact⟨_,by simp[o5,h1,h2,hk,fR,mz,hz,ho,k4,nW],h3⟩
theorem D2(h:og C f call ⟨l⟩ l S fun _ S'=>nJ (1000+id) (C.jW f id) (C.k6 f id) (fun b7=>Q (.normal,b7)) S')(hk:C.j8 f id=none:=by exact rfl):uC C f call id ⟨l⟩ false S Q:=by obtain⟨x,h1,bM,h0,b7,h2,h3⟩:=Bf h;exact⟨_,by simp[o5,h1,hk,fR,mz,h0,h2],h3⟩
theorem BF(h:og C f call ⟨l⟩ l S (yz C f id fun S'=>nJ (1000+id) (C.jW f id) (C.k6 f id) (fun b7=>Q (.normal,b7)) S'))(hk:C.j8 f id=none:=by exact rfl):uC C f call id ⟨l⟩ true S Q:=by obtain⟨x,h1,h4,bM,h0,b7,h2,h3⟩:=Bf h;simp only[Hk]at h4;exact⟨_,by simp[o5,h1,h4,hk,fR,mz,h0,h2],h3⟩
theorem rg(h:og C f call ⟨l⟩ l S fun _ S'=>Q (.normal,S'))(hk:C.j8 f id=none:=by exact rfl)(hz:C.k6 f id=[]:=by exact rfl)(ho:C.jW f id=[]:=by exact rfl)(ha:C.mD f id=[]:=by exact rfl)(hn:C.nt f id=false:=by exact rfl):W C f call (.region id ⟨l⟩ false) S Q:=w0 (QF h hk hz ho) ha hn
theorem Ju(h:og C f call ⟨l⟩ l S (yz C f id fun S'=>Q (.normal,S')))(hk:C.j8 f id=none:=by exact rfl)(hz:C.k6 f id=[]:=by exact rfl)(ho:C.jW f id=[]:=by exact rfl)(ha:C.mD f id=[]:=by exact rfl)(hn:C.nt f id=false:=by exact rfl):W C f call (.region id ⟨l⟩ true) S Q:=w0 (QG h hk hz ho) ha hn
theorem ah(h:og C f call ⟨l⟩ l S fun _ S'=>W C f call b S' Q)(hk:C.j8 f id=none:=by exact rfl)(hz:C.k6 f id=[]:=by exact rfl)(ho:C.jW f id=[]:=by exact rfl)(ha:C.mD f id=[]:=by exact rfl)(hk2:kr C f b=none:=by exact rfl)(hn:C.nt f id=false:=by exact rfl):W C f call (.seq (.region id ⟨l⟩ false) b) S Q:=iw (QF h hk hz ho) ha hk2 hn
theorem iM(h:og C f call ⟨l⟩ l S (yz C f id fun S'=>W C f call b S' Q))(hk:C.j8 f id=none:=by exact rfl)(hz:C.k6 f id=[]:=by exact rfl)(ho:C.jW f id=[]:=by exact rfl)(ha:C.mD f id=[]:=by exact rfl)(hk2:kr C f b=none:=by exact rfl)(hn:C.nt f id=false:=by exact rfl):W C f call (.seq (.region id ⟨l⟩ true) b) S Q:=iw (QG h hk hz ho) ha hk2 hn
theorem ue(h:og C f call ⟨l⟩ l S fun _ S'=>nJ (1000+id) (C.jW f id) (C.k6 f id) (fun b7=>Q (.normal,b7)) S')(hk:C.j8 f id=none:=by exact rfl)(ha:C.mD f id=[]:=by exact rfl)(hn:C.nt f id=false:=by exact rfl):W C f call (.region id ⟨l⟩ false) S Q:=w0 (D2 h hk) ha hn
theorem UL(h:og C f call ⟨l⟩ l S (yz C f id fun S'=>nJ (1000+id) (C.jW f id) (C.k6 f id) (fun b7=>Q (.normal,b7)) S'))(hk:C.j8 f id=none:=by exact rfl)(ha:C.mD f id=[]:=by exact rfl)(hn:C.nt f id=false:=by exact rfl):W C f call (.region id ⟨l⟩ true) S Q:=w0 (BF h hk) ha hn
theorem dN(h:og C f call ⟨l⟩ l S fun _ S'=>nJ (1000+id) (C.jW f id) (C.k6 f id) (fun b7=>W C f call b b7 Q) S')(hk:C.j8 f id=none:=by exact rfl)(ha:C.mD f id=[]:=by exact rfl)(hk2:kr C f b=none:=by exact rfl)(hn:C.nt f id=false:=by exact rfl):W C f call (.seq (.region id ⟨l⟩ false) b) S Q:=iw (D2 h hk) ha hk2 hn
theorem Jz(h:og C f call ⟨l⟩ l S (yz C f id fun S'=>nJ (1000+id) (C.jW f id) (C.k6 f id) (fun b7=>W C f call b b7 Q) S'))(hk:C.j8 f id=none:=by exact rfl)(ha:C.mD f id=[]:=by exact rfl)(hk2:kr C f b=none:=by exact rfl)(hn:C.nt f id=false:=by exact rfl):W C f call (.seq (.region id ⟨l⟩ true) b) S Q:=iw (BF h hk) ha hk2 hn
theorem aH{p:Nat}{K:aj->Prop}{lo z1:List Nat}(k:yx z1 K S)(hl:lo=[]:=by exact rfl):nJ p lo z1 K S:=by subst hl;exact⟨_,rfl,k⟩
theorem aI{p:Nat}{K:aj->Prop}{S':aj}{lo z1:List Nat}(s:Nat)(sl:List Nat)(he:sG p S s=some S')(k:nJ p sl z1 K S')(hl:lo=s::sl:=by exact rfl):nJ p lo z1 K S:=by subst hl;obtain⟨b7,h1,h2⟩:=k;exact⟨b7,by simp only[nW,he,AC];exact h1,h2⟩
theorem aiE{p s row off:Nat}{id:Id}{r r':List U}{x:Id×Option Rows}{wr:List (Id×Option Rows)}(hs:t s= .mp id row off)(hid:h id=some (some [r]))(hu:cc [p,s] 0 r=(r',x::wr))(Ml:Do s n=true)(hf:fresh h (x::wr)=true):sG p ⟨n,t,h⟩ s=some ⟨n,t,bE h ((id,some [r'])::x::wr)⟩:=by have hs':s<n:=of_decide_eq_true (by simp[Do]at Ml|-;omega);simp only[sG,hs,hid,hu,Nm,GE,if_false];rw[if_pos ⟨hs',hf⟩]
theorem aG{K:aj->Prop}{l:List Nat}(k:K S)(hl:l=[]:=by exact rfl):yx l K S:=by subst hl;exact⟨_,rfl,k⟩
theorem zg{K:aj->Prop}{S':aj}{l:List Nat}(s:Nat)(sl:List Nat)(he:o7 S s=some S')(k:yx sl K S')(hl:l=s::sl:=by exact rfl):yx l K S:=by subst hl;obtain⟨b7,h1,h2⟩:=k;exact⟨b7,by simp only[k4,he,AC];exact h1,h2⟩
theorem nl(h:K ks S):eS C f call ops m i [] ks S K Z:=⟨_,rfl,by simpa using h⟩
def CK(ks:List eO):Bool:=ks.all fun k=>k.2.2.isEmpty
theorem Jq(a b:List eO):CK (a++b)=(CK a&&CK b):=by simp[CK]
theorem fj{P:aj->Prop}(h:P S)(hf:nP (C.gb f id) ks=true:=by first|exact rfl|exact EN _ _ rfl|(apply EN;simp[Jq, *];done)|(apply EN;simp only[Jq,Bool.and_eq_true];(repeat' constructor)<;>first|assumption|rfl)):eS C f call ops m i [] ks S (yz C f id P) Z:=⟨_,rfl,by simpa using hf,h⟩
def GV(σ:Type)(C:aF)(f:FuncId)(id:Nat)(draw:Bool)(rep:σ->aj)(x:σ)(ks:List eO)(S:aj):Prop:=(draw=true->nP (C.gb f id) ks=true)∧nJ (1000+id) (C.jW f id) (C.k6 f id) (fun b7=>fR (C.j8 f id) b7=some (rep x)) S
theorem abp{σ:Type}{draw:Bool}{A:Option σ}{wj:σ->Option ρ}(rep:σ->aj)(hF:A.bind wj=some r)(k1:∀x,A=some x->og C f call ⟨l⟩ l S (GV σ C f id draw rep x))(k2:∀x,wj x=some r->Q (.normal,rep x)):uC C f call id ⟨l⟩ draw S Q:=by obtain⟨x,h1,h2⟩:=Hv hF;obtain⟨y,h3,h4,bM,h5,b7,h6,h7⟩:=Bf (k1 x h1);simp only[Hk]at h4;refine⟨rep x, ?_,k2 x h2⟩;simp only[o5,h3,AC];cases draw with|false=>(simp[mz,h5,h6,h7])|true=>simp[h4 rfl,mz,h5,h6,h7]
theorem dX{σ:Type}{draw:Bool}{A:Option σ}{wj:σ->Option ρ}(rep:σ->aj)(hF:A.bind wj=some r)(k1:∀x,A=some x->og C f call ⟨l⟩ l S (GV σ C f id draw rep x))(k2:∀x,wj x=some r->W C f call b (rep x) Q)(ha:C.mD f id=[]:=by exact rfl)(hk2:kr C f b=none:=by exact rfl)(hn:C.nt f id=false:=by exact rfl):W C f call (.seq (.region id ⟨l⟩ draw) b) S Q:=iw (abp rep hF k1 k2) ha hk2 hn
theorem sD{σ:Type}{rep:σ->aj}{x:σ}(h:nJ (1000+id) (C.jW f id) (C.k6 f id) (fun b7=>fR (C.j8 f id) b7=some (rep x)) S):eS C f call ops m i [] ks S (GV σ C f id false rep x) Z:=⟨_,rfl,And.intro (fun e=>PH e) h⟩
theorem bx{σ:Type}{rep:σ->aj}{x:σ}(hc:fR (C.j8 f id) S=some (rep x))(hz:C.k6 f id=[]:=by exact rfl)(ho:C.jW f id=[]:=by exact rfl):eS C f call ops m i [] ks S (GV σ C f id false rep x) Z:=sD (by rw[hz,ho];exact⟨_,rfl,_,rfl,hc⟩)
variable{d:Nat}{ty:TypeId}{pos:String}{bt:Array Edge}{bS:Option (Nat×Bool)}{op:Op}{v:U}{g:Bool}
theorem aeX(i:Nat)(e:bn)(l:List eO):hkey i e l=hkey i e []++l:=by unfold hkey;split<;>simp
theorem AU{o:Oper}{e:bn}(hy:mb m o=true)(he:tu C f call S ops o=some e)(hs:(e.eu.all fun x=>decide (x.1<S.n))=true)(k:eS C f call ops (sX m i) (i+1) l (ks++hkey i e []) (S.app e) K Z):eS C f call ops m i (o::l) ks S K Z:=by obtain⟨x,h1,h2⟩:=k;refine⟨(x.1,hkey i e x.2), ?_, ?_⟩;·{simp only[jU,hy,he,if_true];rw[if_pos hs,h1];rfl};·rw[aeX];simpa using h2
theorem rT{d n:Nat}(h:Do d n=true):decide (d<n)=true:=by simp[Do]at h|-;omega
theorem pp(he:bU C f call ⟨n,t,h⟩ true ⟨some d,op,ty,pos,bt,none⟩=some ⟨[(d,v)],[],[]⟩)(k:eS C f call ops (sX m i) (i+1) l ks ⟨n,au t d v,h⟩ K Z)(hs:Do d n=true:=by exact rfl)(hy:mb m ⟨some d,op,ty,pos,bt,none⟩=true:=by exact rfl):eS C f call ops m i (⟨some d,op,ty,pos,bt,none⟩::l) ks ⟨n,t,h⟩ K Z:=AU (e:=⟨[(d,v)],[],[]⟩) hy he (by simpa using rT hs) (by simpa[hkey,aj.app]using k)
theorem rr{y:Id}{rd:List Id}(he:bU C f call ⟨n,t,h⟩ true ⟨some d,op,ty,pos,bt,none⟩=some ⟨[(d,v)],y::rd,[]⟩)(k:eS C f call ops (sX m i) (i+1) l (ks++[(i,y::rd,[])]) ⟨n,au t d v,h⟩ K Z)(hs:Do d n=true:=by exact rfl)(hy:mb m ⟨some d,op,ty,pos,bt,none⟩=true:=by exact rfl):eS C f call ops m i (⟨some d,op,ty,pos,bt,none⟩::l) ks ⟨n,t,h⟩ K Z:=AU (e:=⟨[(d,v)],y::rd,[]⟩) hy he (by simpa using rT hs) (by simpa[hkey,aj.app]using k)
theorem ww{tT:Option Nat}{eu:List (Nat×U)}{rd:List Id}{x:Id×Option Rows}{wr:List (Id×Option Rows)}(he:bU C f call ⟨n,t,h⟩ true ⟨tT,op,ty,pos,bt,none⟩=some ⟨eu,rd,x::wr⟩)(k:eS C f call ops (sX m i) (i+1) l (ks++[(i,rd,(x::wr).map (·.1))]) ⟨n,dR t eu,bE h (x::wr)⟩ K Z)(hs:(eu.all fun x=>Do x.1 n)=true:=by exact rfl)(hy:mb m ⟨tT,op,ty,pos,bt,none⟩=true:=by exact rfl):eS C f call ops m i (⟨tT,op,ty,pos,bt,none⟩::l) ks ⟨n,t,h⟩ K Z:=AU (e:=⟨eu,rd,x::wr⟩) hy he (by rw[Hm]at hs|-;exact fun y hy=>rT (hs y hy)) (by simpa[hkey,aj.app]using k)
theorem aU{j:Nat}{wt:Bool}{l0:List Oper}(hg:uU wt ⟨n,t,h⟩ (qP l0 j)=some g)(he:bU C f call ⟨n,t,h⟩ g ⟨some d,op,ty,pos,bt,some (j,wt)⟩=some ⟨[(d,v)],[],[]⟩)(k:eS C f call ⟨l0⟩ (sX m i) (i+1) l ks ⟨n,au t d (.dV g v),h⟩ K Z)(hs:Do d n=true:=by exact rfl)(hy:mb m ⟨some d,op,ty,pos,bt,some (j,wt)⟩=true:=by exact rfl):eS C f call ⟨l0⟩ m i (⟨some d,op,ty,pos,bt,some (j,wt)⟩::l) ks ⟨n,t,h⟩ K Z:=AU (e:=⟨[(d, .dV g v)],[],[]⟩) hy (by rw[HQ,hg,HE,HS,he];rfl) (by simpa using rT hs) (by simpa[hkey,aj.app]using k)
theorem F8{j:Nat}{wt:Bool}{l0:List Oper}{y:Id}{rd:List Id}(hg:uU wt ⟨n,t,h⟩ (qP l0 j)=some g)(he:bU C f call ⟨n,t,h⟩ g ⟨some d,op,ty,pos,bt,some (j,wt)⟩=some ⟨[(d,v)],y::rd,[]⟩)(k:eS C f call ⟨l0⟩ (sX m i) (i+1) l (ks++[(i,y::rd,[])]) ⟨n,au t d (.dV g v),h⟩ K Z)(hs:Do d n=true:=by exact rfl)(hy:mb m ⟨some d,op,ty,pos,bt,some (j,wt)⟩=true:=by exact rfl):eS C f call ⟨l0⟩ m i (⟨some d,op,ty,pos,bt,some (j,wt)⟩::l) ks ⟨n,t,h⟩ K Z:=AU (e:=⟨[(d, .dV g v)],y::rd,[]⟩) hy (by rw[HQ,hg,HE,HS,he];rfl) (by simpa using rT hs) (by simpa[hkey,aj.app]using k)
theorem pt{j:Nat}{wt:Bool}{l0:List Oper}(hg:uU wt ⟨n,t,h⟩ (qP l0 j)=some true)(he:bU C f call ⟨n,t,h⟩ true ⟨some d,op,ty,pos,bt,some (j,wt)⟩=some ⟨[(d,v)],[],[]⟩)(k:eS C f call ⟨l0⟩ (sX m i) (i+1) l ks ⟨n,au t d (.dV true v),h⟩ K Z)(hs:Do d n=true:=by exact rfl)(hy:mb m ⟨some d,op,ty,pos,bt,some (j,wt)⟩=true:=by exact rfl):eS C f call ⟨l0⟩ m i (⟨some d,op,ty,pos,bt,some (j,wt)⟩::l) ks ⟨n,t,h⟩ K Z:=aU hg he k hs hy
theorem mh{j:Nat}{wt:Bool}{l0:List Oper}{y:Id}{rd:List Id}(hg:uU wt ⟨n,t,h⟩ (qP l0 j)=some true)(he:bU C f call ⟨n,t,h⟩ true ⟨some d,op,ty,pos,bt,some (j,wt)⟩=some ⟨[(d,v)],y::rd,[]⟩)(k:eS C f call ⟨l0⟩ (sX m i) (i+1) l (ks++[(i,y::rd,[])]) ⟨n,au t d (.dV true v),h⟩ K Z)(hs:Do d n=true:=by exact rfl)(hy:mb m ⟨some d,op,ty,pos,bt,some (j,wt)⟩=true:=by exact rfl):eS C f call ⟨l0⟩ m i (⟨some d,op,ty,pos,bt,some (j,wt)⟩::l) ks ⟨n,t,h⟩ K Z:=F8 hg he k hs hy
theorem GI{j:Nat}{wt:Bool}{l0:List Oper}{eu:List (Nat×U)}{rd:List Id}{x:Id×Option Rows}{wr:List (Id×Option Rows)}{tT:Option Nat}(hg:uU wt ⟨n,t,h⟩ (qP l0 j)=some true)(he:bU C f call ⟨n,t,h⟩ true ⟨tT,op,ty,pos,bt,some (j,wt)⟩=some ⟨eu,rd,x::wr⟩)(k:eS C f call ⟨l0⟩ (sX m i) (i+1) l (ks++[(i,rd,(x::wr).map (·.1))]) ⟨n,dR t eu,bE h (x::wr)⟩ K Z)(hs:(eu.all fun x=>Do x.1 n)=true:=by exact rfl)(hy:mb m ⟨tT,op,ty,pos,bt,some (j,wt)⟩=true:=by exact rfl):eS C f call ⟨l0⟩ m i (⟨tT,op,ty,pos,bt,some (j,wt)⟩::l) ks ⟨n,t,h⟩ K Z:=AU (e:=⟨eu,rd,x::wr⟩) hy (by rw[HQ,hg,HE,HS,he];rfl) (by rw[Hm]at hs|-;exact fun y hy=>rT (hs y hy)) (by simpa[hkey,aj.app]using k)
theorem gf{wt:Bool}{d:Nat}{u:U}{tT:Option Nat}(hd:tT=some d:=by exact rfl)(h:S.t d= .dV false u:=by exact rfl):uU wt S tT=some false:=by subst hd;rw[RB,h];cases u with|val v=>(cases v<;>simp[BU])|_=>rfl
theorem no{d:Nat}{j:Nat}{wt:Bool}{l0:List Oper}(k:∀u ks',CK ks'=true->eS C f call ⟨l0⟩ (sX m i) (i+1) l (ks++ks') ⟨n,au t d (.dV false u),h⟩ K Z)(hg:uU wt ⟨n,t,h⟩ (qP l0 j)=some false:=by first|exact gf|exact rfl)(hs:Do d n=true:=by exact rfl)(hy:mb m ⟨some d,op,ty,pos,bt,some (j,wt)⟩=true:=by exact rfl):eS C f call ⟨l0⟩ m i (⟨some d,op,ty,pos,bt,some (j,wt)⟩::l) ks ⟨n,t,h⟩ K Z:=by have hj:∀(v:U)(rd:List Id),tu C f call ⟨n,t,h⟩ ⟨l0⟩ ⟨some d,op,ty,pos,bt,some (j,wt)⟩=some ⟨[(d, .dV false v)],rd,[]⟩->eS C f call ⟨l0⟩ m i (⟨some d,op,ty,pos,bt,some (j,wt)⟩::l) ks ⟨n,t,h⟩ K Z:=fun v rd he=>AU hy he (by simpa using rT hs) (by have:=k v (hkey i ⟨[(d, .dV false v)],rd,[]⟩ []) (by unfold hkey CK;split<;>simp);simpa[aj.app,dR]using this);rw[HQ,hg,HE,HS]at hj;cases he:bU C f call ⟨n,t,h⟩ false ⟨some d,op,ty,pos,bt,some (j,wt)⟩with|none=>(exact hj .aW [] (by rw[he];rfl))|some e=>obtain⟨eu,rd,wr⟩:=e;cases wr with|cons x wr=>(exact hj .aW [] (by rw[he];rfl))|nil=>rcases Oi he with⟨v,hv⟩|⟨hv,_⟩;·{simp only[put]at hv;subst hv;exact hj v rd (by rw[he];rfl)};·exact absurd rfl hv
theorem c5{A B:Option ρ}{d:Nat}{p:Bool}(hF:(if p=true then A else B)=some r)(h1:A=some r->eS C f call ops m i l ks ⟨n,au t d (.val (.bool true)),h⟩ K Z)(h2:B=some r->eS C f call ops m i l ks ⟨n,au t d (.val (.bool false)),h⟩ K Z)(hd:t d= .val (.bool p):=by exact rfl):eS C f call ops m i l ks ⟨n,t,h⟩ K Z:=by have e:∀q,t d= .val (.bool q)->au t d (.val (.bool q))=t:=fun q hq=>by{funext j;unfold au;split;·{rename_i hj;subst hj;exact hq.symm};·rfl};cases p with|true=>(have:=h1 (by simpa using hF);rwa[e _ hd]at this)|false=>have:=h2 (by simpa using hF);rwa[e _ hd]at this
theorem oS{A B:Option ρ}{d:Nat}{p:Bool}(hF:(if p=true then A else B)=some r)(h1:A=some r->eS C f call ops m i l ks ⟨n,au t d (.dV true (.val (.bool true))),h⟩ K Z)(h2:B=some r->eS C f call ops m i l ks ⟨n,au t d (.dV true (.val (.bool false))),h⟩ K Z)(hd:t d= .dV true (.val (.bool p)):=by exact rfl):eS C f call ops m i l ks ⟨n,t,h⟩ K Z:=by have e:∀q,t d= .dV true (.val (.bool q))->au t d (.dV true (.val (.bool q)))=t:=fun q hq=>by{funext j;unfold au;split;·{rename_i hj;subst hj;exact hq.symm};·rfl};cases p with|true=>(have:=h1 (by simpa using hF);rwa[e _ hd]at this)|false=>have:=h2 (by simpa using hF);rwa[e _ hd]at this
theorem gq{o:Oper}(k:eS C f call ops m (i+1) l ks S K Z)(hy:mb m o=false:=by exact rfl):eS C f call ops m i (o::l) ks S K Z:=by obtain⟨x,h1,h2⟩:=k;exact⟨x,by simp only[jU,hy,GE,if_false];exact h1,h2⟩
theorem Un{o:Oper}{v:Value}{e:bn}(he:tu C f call S ops o=none)(hp:pG C call S ops o=some (v,e))(k:Z ks ⟨i,l,S,v,e⟩)(hm:m=none:=by exact rfl):eS C f call ops m i (o::l) ks S K Z:=by subst hm;exact⟨_,by simp only[jU,mb,if_true,he,hp,Hb];rfl,by simpa using k⟩
def JO(C:aF)(f:FuncId)(id:Nat)(p:pW)(ks:List eO)(Q:Exit×aj->Prop)(ks':List eO)(S:aj):Prop:=nP (C.gb f id) (ks++(ks'++[(p.i,p.e.rd,p.e.wr.map (·.1))]))=true∧Q (fT p.v,xq (Cm (C.gb f id) p.i (ks++ks')) (S.app p.e))
def Dq(C:aF)(f:FuncId)(call:gK)(id:Nat)(ops:Array Oper)(jH:Bool)(Q:Exit×aj->Prop)(ks:List eO)(p:pW):Prop:=if jH then eS C f call ops (some (H1 p.i)) (p.i+1) p.l [] p.S (JO C f id p ks Q) z8 else Q (fT p.v,p.S.app p.e)
def GW(C:aF)(f:FuncId)(id:Nat)(jH:Bool)(Q:Exit×aj->Prop)(ks:List eO)(S:aj):Prop:=(jH=true->nP (C.gb f id) ks=true)∧nJ (1000+id) (C.jW f id) (C.k6 f id) (fun b7=>∃iP,fR (C.j8 f id) b7=some iP∧Q (.normal,iP)) S
def WP(C:aF)(f:FuncId)(call:gK)(id:Nat)(ops:Array Oper)(draw:Bool)(S:aj)(Q:Exit×aj->Prop):Prop:=∃x,tw C f call id ops draw S=some x∧Q x
theorem amj{jH:Bool}(h:eS C f call ⟨l⟩ none 0 l [] S (GW C f id jH Q) (Dq C f call id ⟨l⟩ jH Q)):WP C f call id ⟨l⟩ jH S Q:=by obtain⟨⟨z,ks⟩,h1,h2⟩:=h;cases z with|inl S'=>(obtain⟨h2,b7,h3,iP,h4,Yb,h5,h6⟩:=h2;simp only[Hk]at h2;refine⟨(.normal,Yb), ?_,h6⟩;unfold tw;simp only[h1];cases jH with|false=>(simp[mz,h3,h4,h5])|true=>simp[h2 rfl,mz,h3,h4,h5])|inr p=>simp only[Hk]at h2;unfold Dq at h2;cases jH with|false=>(simp only[GE,if_false]at h2;exact⟨_,by unfold tw;simp only[h1];unfold Ed;simp only[GE,if_false],h2⟩)|true=>simp only[if_true]at h2;obtain⟨⟨z,ks'⟩,h3,h4⟩:=h2;cases z with|inr _=>(exact h4.elim)|inl S'=>simp only[Hk]at h4;exact⟨_,by unfold tw;simp only[h1];unfold Ed;simp only[if_true,h3,h4.1],h4.2⟩
theorem cM{jH:Bool}(h:eS C f call ⟨l⟩ none 0 l [] S (GW C f id jH Q) (Dq C f call id ⟨l⟩ jH Q))(hn:C.nt f id=true:=by exact rfl)(ha:C.mD f id=[]:=by exact rfl):W C f call (.region id ⟨l⟩ jH) S Q:=by obtain⟨x,h1,h2⟩:=amj h;exact⟨x,by simp[c6,hn,ha,k4,h1],h2⟩
theorem dw(h:nJ (1000+id) (C.jW f id) (C.k6 f id) (fun b7=>Q (.normal,b7)) S)(hk:C.j8 f id=none:=by exact rfl):eS C f call ops m i [] ks S (GW C f id false Q) Z:=⟨_,rfl,(fun e=>by cases e),by obtain⟨bM,h1,b7,h2,h3⟩:=h;exact⟨bM,h1,b7,h2,b7,by rw[hk];rfl,h3⟩⟩
theorem sE(h:nJ (1000+id) (C.jW f id) (C.k6 f id) (fun b7=>Q (.normal,b7)) S)(hk:C.j8 f id=none:=by exact rfl)(hf:nP (C.gb f id) ks=true:=by first|exact rfl|exact EN _ _ rfl|(apply EN;simp[Jq, *];done)|(apply EN;simp only[Jq,Bool.and_eq_true];(repeat' constructor)<;>first|assumption|rfl)):eS C f call ops m i [] ks S (GW C f id true Q) Z:=⟨_,rfl,(fun _=>by simpa using hf),by obtain⟨bM,h1,b7,h2,h3⟩:=h;exact⟨bM,h1,b7,h2,b7,by rw[hk];rfl,h3⟩⟩
theorem de{v:Value}{rd:List Id}{wr:List (Id×Option Rows)}{wr':List (Id×Option Rows)}(k:Q (fT v,⟨n,t,bE h wr'⟩))(hw:wr=wr':=by exact rfl):Dq C f call id ops false Q ks ⟨i,l,⟨n,t,h⟩,v,⟨[],rd,wr⟩⟩:=by subst hw;exact k
theorem q4{v:Value}{rd:List Id}{wr:List (Id×Option Rows)}(k:eS C f call ops (some (H1 i)) (i+1) l [] ⟨n,t,h⟩ (JO C f id ⟨i,l,⟨n,t,h⟩,v,⟨[],rd,wr⟩⟩ ks Q) z8):Dq C f call id ops true Q ks ⟨i,l,⟨n,t,h⟩,v,⟨[],rd,wr⟩⟩:=k
theorem q8{p:pW}{ks':List eO}{K':List Id}{wr:List (Id×Option Rows)}{wr':List (Id×Option Rows)}(k:Q (fT p.v,⟨n,fun _=> .aW,bE h wr'⟩))(hf:nP (C.gb f id) (ks++(ks'++[(p.i,p.e.rd,p.e.wr.map (·.1))]))=true:=by exact rfl)(hK:Cm (C.gb f id) p.i (ks++ks')=K':=by exact rfl)(hp:p.e.wr=wr:=by exact rfl)(hw:(K'.map fun i=>(i,none))++wr=wr':=by exact rfl):eS C f call ops m i [] ks' ⟨n,t,h⟩ (JO C f id p ks Q) z8:=by subst hK hp hw;refine⟨(.inl _,[]),rfl, ?_, ?_⟩;·{simpa using hf};·have e:xq (Cm (C.gb f id) p.i (ks++ks')) (aj.app ⟨n,t,h⟩ p.e)=⟨n,fun _=> .aW,bE h ((Cm (C.gb f id) p.i (ks++ks')).map (fun i=>(i,none))++p.e.wr)⟩:=by{simp only[xq,aj.app,aj.mk.injEq,true_and];rw[uk]};simp only[PP];rw[e];exact k
end
/-! Ways of a panic. -/
theorem cT{v:Value}(h:Q (fT v,S)):Dw C f call b Q (fT v,S):=h
theorem dM{v:Value}(h:Q (fT v,S)):qF C f k Q (fT v,S):=h
theorem fZ{σ:Type}{o:Option (Bool×List Nat)}{rep:σ->aj}{oU:σ->Option ρ}{v:Value}(h:Q (fT v,S)):Dv σ o rep oU r Q (fT v,S):=h
end
open Go
theorem iF{α β:Type}(P:Program)(s:Sem α)(k:α->Sem β):dL P (s>>=k)=(dL P s).bind fun a=>dL P (k a):=by show dL P (s.bind k)=_;induction s with|pure a=>(rfl)|program k2 ih=>(simpa[Sem.bind,dL]using ih P)|_=>simp[Sem.bind,dL]
section
variable{P:Program}
theorem pJ{α:Type}(a:α):dL P (pure a:Sem α)=some a:=rfl
theorem Jj:dL P program=some P:=rfl
theorem qt{t:TypeId}{d:TypeDesc}(h:P.underlying t=some d):dL P (underlying t)=some d:=by unfold underlying;rw[iF,Jj,AC,h];rfl
def Nj:TypeDesc->Bool| .struct _=>false| .array _ _=>false|_=>true
theorem ajr{t:TypeId}{d:TypeDesc}(h:P.underlying t=some d)(hd:Nj d=true):dL P (isAgg t)=some false:=by unfold isAgg;rw[iF,qt h,AC];cases d<;>first|rfl|cases hd
theorem Uc{t:TypeId}{d:TypeDesc}{cs:Array Value}{off:Nat}{v:Value}(h:P.underlying t=some d)(hd:Nj d=true)(hv:cs[off]? =some v):dL P (part t cs off)=some v:=by unfold part;rw[iF,ajr h hd,AC,hv];rfl
theorem Ub(d:Nat)(t:TypeId)(xs ys:Array Value)(ht:P.underlying t=some (.struct (P.fieldsOf t)))(hp:P.stoodInHeld t=false):dL P (Op.equalIn (d+1) t (.agg xs) (.agg ys))=dL P (Op.eqFields d xs ys (P.fieldsOf t).toList):=by simp only[Op.equalIn,iF,qt ht,AC,Jj,hp,GE,if_false];rw[<-Array.forIn_toList];generalize(P.fieldsOf t).toList=fs;clear ht;induction fs with|nil=>(rfl)|cons f fs ih=>simp only[List.forIn_cons,Op.eqFields,iF];split;·{simp only[iF];cases dL P (part f.type xs f.offset)with|none=>(rfl)|some a=>simp only[AC];cases dL P (part f.type ys f.offset)with|none=>(rfl)|some b=>simp only[AC];cases dL P (Op.equalIn d f.type a b)with|none=>(rfl)|some r=>cases r;·{rfl};·simp only[AC,Bool.not_true,GE,if_false,pJ];exact ih};·simp only[pJ,AC];exact ih
def Gg:Value->Value->Option Bool| .int k a, .int k' b=>if k=k' then some (a==b)else none| .bool a, .bool b=>some (a==b)| .string a, .string b=>some (a.toList==b.toList)|_,_=>none
def fits:TypeDesc->Value->Bool| .int _, .int _ _=>true| .bool, .bool _=>true| .string, .string _=>true|_,_=>false
theorem ajp{d:Nat}{t:TypeId}{D:TypeDesc}{x y:Value}{b:Bool}(h:P.underlying t=some D)(hf:fits D x=true)(he:Gg x y=some b):dL P (Op.equalIn (d+1) t x y)=some b:=by
 cases x<;>cases D<;>simp only[fits,GE]at hf<;>cases y<;>simp only[Gg]at he<;>try cases he
 ·simp[Op.equalIn,iF,qt h,pJ]
 ·split at he
  ·rename_i hk;subst hk
   simp only[Kd]at he;subst he
   simp[Op.equalIn,iF,qt h,pJ]
  ·cases he
 ·simp[Op.equalIn,iF,qt h,pJ,beq_toListBytes]
def wM(P:Program)(xs ys:Array Value):List Field->Option Bool|[]=>some true|f::fs=>if f.name≠ "_" then match P.underlying f.type,xs[f.offset]?,ys[f.offset]? with|some D,some x,some y=>if fits D x then(Gg x y).bind fun b=>(wM P xs ys fs).map (b&&·)else none|_,_,_=>none else none
theorem NM{d:Nat}{xs ys:Array Value}:∀{fs:List Field}{b:Bool},wM P xs ys fs=some b->dL P (Op.eqFields (d+1) xs ys fs)=some b|[],b,h=>by{simp[wM]at h;subst h;rfl}|f::fs,b,h=>by unfold wM at h;split at h;·{rename_i hn;split at h;·{rename_i D x y hD hx hy;split at h;·{rename_i hf;simp only[Hd,PQ]at h;obtain⟨b1,h1,b2,h2,rfl⟩:=h;have hd:Nj D=true:=by{cases D<;>cases x<;>simp[fits]at hf<;>rfl};simp only[Op.eqFields];rw[if_pos hn];simp only[iF,Uc hD hd hx,Uc hD hd hy,AC,ajp hD hf h1];cases b1;·{rfl};·simpa using NM h2};·cases h};·cases h};·cases h
theorem Z3{t:TypeId}{x y:Operand}{xs ys:Array Value}{fs:Array Field}{b:Bool}(hf:P.underlying t=some (.struct fs))(hp:P.stoodInHeld t=false)(hm:P.eqGuardType P.depth t=false)(he:wM P xs ys fs.toList=some b):fE P .eql t x y (.agg xs) (.agg ys)=some (.bool b):=by have e:P.fieldsOf t=fs:=by{unfold Program.fieldsOf;rw[hf]};unfold fE;have e1:dL P (eqGuard .eql t x y (.agg xs) (.agg ys))=some ():=by{simp[eqGuard,iF,Jj,hm,pJ]};rw[iF,e1,AC];simp only[binOp,Op.equal,Op.maxDepth];rw[iF,Ub 9999 t xs ys (by rw[e];exact hf) hp,e,NM he];rfl
theorem aab{t:TypeId}{x y:Operand}{xs ys:Array Value}{fs:Array Field}{b:Bool}(hf:P.underlying t=some (.struct fs))(hp:P.stoodInHeld t=false)(hm:P.eqGuardType P.depth t=false)(he:wM P xs ys fs.toList=some b):fE P .neq t x y (.agg xs) (.agg ys)=some (.bool (!b)):=by have e:P.fieldsOf t=fs:=by{unfold Program.fieldsOf;rw[hf]};unfold fE;have e1:dL P (eqGuard .neq t x y (.agg xs) (.agg ys))=some ():=by{simp[eqGuard,iF,Jj,hm,pJ]};rw[iF,e1,AC];simp only[binOp,Op.equal,Op.maxDepth];rw[iF,Ub 9999 t xs ys (by rw[e];exact hf) hp,e,NM he];rfl
end
open Go
inductive cJ where|nil|code(n:Int)|other deriving DecidableEq,Inhabited
def iU(t:TypeId):cJ->U| .nil=> .val .nilIface| .code n=> .val (.iface t (.int .i64 n))| .other=> .nn
/-! ### Facts about the program's types, found by their numbers -/
class eL(C:aF)(t:TypeId)(d:outParam TypeDesc):Prop where ul:C.P.underlying t=some d
class eK(C:aF)(t:TypeId)(b:outParam Bool)(n:outParam Nat):Prop where
 mw:lY C t=some b
 sz:jz C t=some n
class Fd(C:aF)(t i:Nat)(off n:outParam Nat)(b:outParam Bool):Prop where fd:Eg C t i=some (off,n,b)
class mV(C:aF)(t:TypeId)(cs:outParam (List U)):Prop where hJ:A5 C t=some cs
class wG(C:aF)(t:TypeId)(cs:outParam (List U)):Prop where VT:A6 C t=some cs
class Pl(C:aF)(t:TypeId)(pl:outParam (List (Nat×Nat×Bool))):Prop where pl:NL C t=some pl
def DK(C:aF)(e:TypeId)(m:Nat):Bool:=match C.P.info? e with|some i=>i.size==m&&decide (0<m)&&decide (i.bytes<=4096)&&GL i|none=>false
class uo(C:aF)(e:TypeId)(m:outParam Nat):Prop where ao:DK C e m=true
class qC{α:Type}(c:α->List U):Prop where fl:∀x,dJ (c x)=true
class wm{α:Type}(c:α->List U):Prop where
 im:∀x,fS (c x)=true
 ce:∀x,(c x).all U.cell=true
class GQ{α:Type}(c:α->List U)(c':outParam (α->List U)):Prop where ey:∀x,k5 (c x)=c' x
class amy{α:Type}(c:α->List U):Prop where mi:∀x,nT (c x)=true
section
variable{g g' h k:Bool}{x:U}
theorem JH{t:TypeId}{e:cJ}:un g (iU t e)=iU t e:=by cases e<;>cases g<;>rfl
theorem al0{p:Bool}:un (true&&p) (.dV (p==true) x)=x:=by cases p<;>rfl
theorem al1{p:Bool}:un (true&& !p) (.dV (p==false) x)=x:=by cases p<;>rfl
theorem al2{p:Bool}:un (g&&p) (.dV (g&&(p==true)) x)=x:=by cases p<;>cases g<;>rfl
theorem al3{p:Bool}:un (g&& !p) (.dV (g&&(p==false)) x)=x:=by cases p<;>cases g<;>rfl
end
theorem cY{a b:U}(h:a=b:=by first|exact Vz _|exact JH|exact alY|exact arG|exact al0|exact al1|exact al2|exact al3|exact arv|exact arw|exact arz|exact arx|exact ary):a=b:=h
theorem gt{a b:U}(h:a=b:=by first|exact(rfl:_=U.val _)|exact(rfl:_=U.sl _)|exact(rfl:_=U.rs _ _ _)|exact(rfl:_=U.mp _ _ _)|exact(rfl:_=U.bD _)|exact(rfl:_=U.agg _)|exact(rfl:_=U.cI)|exact(rfl:_=U.aL _)|exact(rfl:_=U.fn _ _ _)|exact JH|exact alY|exact(rfl:_=U.nn)|exact(rfl:_=U.mr _)|exact(rfl:_=U.im _)|exact(rfl:_=U.fH _)|exact cY):a=b:=h
theorem aln{α:Type}{a:α}{l t t':List α}(h:l=a::t)(k:t=t'):l=a::t':=by rw[h,k]
theorem alo{α:Type}{l:List α}(h:l=[]:=by exact rfl):l=[]:=h
theorem spine{α:Type}{a b:List α}(h:a=b:=by repeat(first|exact alo|apply aln rfl)):a=b:=h
theorem Sz{α:Type}{o:Option α}(h:o=none):o.isNone=true:=by rw[h];rfl
section
variable{C:aF}{f:FuncId}{call:gK}{S:aj}{g:Bool}
variable{d:Nat}{ty:TypeId}{pos:String}{bt:Array Edge}{bS:Option (Nat×Bool)}{v v':U}
variable{x y z:Operand}{k:IntKind}{a b:Int}{T dn:TypeId}
theorem aa(h:un g (S.get C x)=v:=by exact gt):bU C f call S g ⟨some d, .move x,ty,pos,bt,bS⟩=some ⟨[(d,v)],[],[]⟩:=by subst h;rfl
theorem ai(h:un g (S.get C x)=v:=by exact gt):bU C f call S g ⟨some d, .assign x,ty,pos,bt,bS⟩=some ⟨[(d,v)],[],[]⟩:=by subst h;rfl
theorem qm{op:BinOp}{Qd Qe:U}{fL jB oT:Value}(hx:un g (S.get C x)=Qd)(hy:un g (S.get C y)=Qe)(h1:nF Qd=some fL)(h2:nF Qe=some jB)(hb:fE C.P op T x y fL jB=some oT)(hs:gN oT=true):bU C f call S g ⟨some d, .binOp op T x y dn,ty,pos,bt,bS⟩=some ⟨[(d, .val oT)],[],[]⟩:=by show uK C _ op T x y (un g (S.get C x)) (un g (S.get C y))=_;rw[hx,hy];simp[uK,h1,h2,hb,hs]
theorem sH{op:BinOp}{oT:Value}(hb:fE C.P op T x y (.int k a) (.int k b)=some oT)(hs:gN oT=true)(hx:un g (S.get C x)= .val (.int k a))(hy:un g (S.get C y)= .val (.int k b)):bU C f call S g ⟨some d, .binOp op T x y dn,ty,pos,bt,bS⟩=some ⟨[(d, .val oT)],[],[]⟩:=qm hx hy rfl rfl hb hs
theorem eI(hx:un g (S.get C x)= .val (.int k a):=by first|exact rfl|exact cY)(hy:un g (S.get C y)= .val (.int k b):=by first|exact rfl|exact cY):bU C f call S g ⟨some d, .binOp .add T x y dn,ty,pos,bt,bS⟩=some ⟨[(d, .val (.int k (k.wrap (a+b))))],[],[]⟩:=sH Z0 rfl hx hy
theorem l6(hx:un g (S.get C x)= .val (.int k a):=by first|exact rfl|exact cY)(hy:un g (S.get C y)= .val (.int k b):=by first|exact rfl|exact cY):bU C f call S g ⟨some d, .binOp .sub T x y dn,ty,pos,bt,bS⟩=some ⟨[(d, .val (.int k (k.wrap (a-b))))],[],[]⟩:=sH aad rfl hx hy
theorem Tu(hx:un g (S.get C x)= .val (.int k a):=by first|exact rfl|exact cY)(hy:un g (S.get C y)= .val (.int k b):=by first|exact rfl|exact cY):bU C f call S g ⟨some d, .binOp .mul T x y dn,ty,pos,bt,bS⟩=some ⟨[(d, .val (.int k (k.wrap (a*b))))],[],[]⟩:=sH Z8 rfl hx hy
theorem cB(hx:un g (S.get C x)= .val (.int k a):=by first|exact rfl|exact cY)(hy:un g (S.get C y)= .val (.int k b):=by first|exact rfl|exact cY):bU C f call S g ⟨some d, .binOp .eql T x y dn,ty,pos,bt,bS⟩=some ⟨[(d, .val (.bool (a==b)))],[],[]⟩:=sH Z1 rfl hx hy
theorem kJ(hx:un g (S.get C x)= .val (.int k a):=by first|exact rfl|exact cY)(hy:un g (S.get C y)= .val (.int k b):=by first|exact rfl|exact cY):bU C f call S g ⟨some d, .binOp .neq T x y dn,ty,pos,bt,bS⟩=some ⟨[(d, .val (.bool (a !=b)))],[],[]⟩:=sH Z9 rfl hx hy
theorem gi(hx:un g (S.get C x)= .val (.int k a):=by first|exact rfl|exact cY)(hy:un g (S.get C y)= .val (.int k b):=by first|exact rfl|exact cY):bU C f call S g ⟨some d, .binOp .lss T x y dn,ty,pos,bt,bS⟩=some ⟨[(d, .val (.bool (decide (a<b))))],[],[]⟩:=sH Z7 rfl hx hy
theorem iZ(hx:un g (S.get C x)= .val (.int k a):=by first|exact rfl|exact cY)(hy:un g (S.get C y)= .val (.int k b):=by first|exact rfl|exact cY):bU C f call S g ⟨some d, .binOp .leq T x y dn,ty,pos,bt,bS⟩=some ⟨[(d, .val (.bool (decide (a<=b))))],[],[]⟩:=sH Z6 rfl hx hy
theorem gZ(hx:un g (S.get C x)= .val (.int k a):=by first|exact rfl|exact cY)(hy:un g (S.get C y)= .val (.int k b):=by first|exact rfl|exact cY):bU C f call S g ⟨some d, .binOp .gtr T x y dn,ty,pos,bt,bS⟩=some ⟨[(d, .val (.bool (decide (b<a))))],[],[]⟩:=sH Z5 rfl hx hy
theorem iE(hx:un g (S.get C x)= .val (.int k a):=by first|exact rfl|exact cY)(hy:un g (S.get C y)= .val (.int k b):=by first|exact rfl|exact cY):bU C f call S g ⟨some d, .binOp .geq T x y dn,ty,pos,bt,bS⟩=some ⟨[(d, .val (.bool (decide (b<=a))))],[],[]⟩:=sH Z4 rfl hx hy
theorem Z2{P:Program}{a b:ByteArray}:fE P .eql T x y (.string a) (.string b)=some (.bool (a.toList==b.toList)):=by simp[fE,eqGuard,binOp,Op.stringOp,dL,bind,Sem.bind,pure]
theorem aaa{P:Program}{a b:ByteArray}:fE P .neq T x y (.string a) (.string b)=some (.bool (a.toList !=b.toList)):=by simp[fE,eqGuard,binOp,Op.stringOp,dL,bind,Sem.bind,pure,bne]
theorem oJ{a b:ByteArray}(hx:un g (S.get C x)= .val (.string a):=by first|exact rfl|exact cY)(hy:un g (S.get C y)= .val (.string b):=by first|exact rfl|exact cY):bU C f call S g ⟨some d, .binOp .eql T x y dn,ty,pos,bt,bS⟩=some ⟨[(d, .val (.bool (a.toList==b.toList)))],[],[]⟩:=qm hx hy rfl rfl Z2 rfl
theorem Nq{a b:ByteArray}(hx:un g (S.get C x)= .val (.string a):=by first|exact rfl|exact cY)(hy:un g (S.get C y)= .val (.string b):=by first|exact rfl|exact cY):bU C f call S g ⟨some d, .binOp .neq T x y dn,ty,pos,bt,bS⟩=some ⟨[(d, .val (.bool (a.toList !=b.toList)))],[],[]⟩:=qm hx hy rfl rfl aaa rfl
theorem TA{op:BinOp}{xs ys:List U}{vx vy:List Value}{q:Bool}(hb:fE C.P op T x y (.agg ⟨vx⟩) (.agg ⟨vy⟩)=some (.bool q))(hx:un g (S.get C x)= .agg xs:=by first|exact rfl|exact cY)(hy:un g (S.get C y)= .agg ys:=by first|exact rfl|exact cY)(h1:j5 xs=some vx:=by exact rfl)(h2:j5 ys=some vy:=by exact rfl):bU C f call S g ⟨some d, .binOp op T x y dn,ty,pos,bt,bS⟩=some ⟨[(d, .val (.bool q))],[],[]⟩:=qm hx hy (by simp[nF,h1]) (by simp[nF,h2]) hb rfl
theorem ia{p:Bool}(hx:un g (S.get C x)= .val (.bool p):=by first|exact rfl|exact cY):bU C f call S g ⟨some d, .unOp .not T x,ty,pos,bt,bS⟩=some ⟨[(d, .val (.bool !p))],[],[]⟩:=by show y9 C _ .not (un g (S.get C x))=_;rw[hx];rfl
theorem ahK{op:UnOp}{fL oT:Value}(hb:GF C.P op fL=some oT)(hs:gN oT=true)(hx:un g (S.get C x)= .val fL:=by first|exact rfl|exact cY):bU C f call S g ⟨some d, .unOp op T x,ty,pos,bt,bS⟩=some ⟨[(d, .val oT)],[],[]⟩:=by show y9 C _ op (un g (S.get C x))=_;rw[hx];simp[hb,hs]
theorem ahG{fL oT:Value}(hb:HF C.P T dn fL=some oT)(hx:un g (S.get C x)= .val fL:=by first|exact rfl|exact cY)(hs:gN oT=true:=by exact rfl)(hnb:wI C T dn=false:=by first|rfl|decide):bU C f call S g ⟨some d, .convert T dn x,ty,pos,bt,bS⟩=some ⟨[(d, .val oT)],[],[]⟩:=by show uM C _ T dn (un g (S.get C x))=_;rw[hx,ace hnb];simp[hb,hs]
theorem dQ{p q r:Bool}(hx:un g (S.get C x)= .val (.bool p):=by first|exact rfl|exact cY)(hy:un (g&&p) (S.get C y)= .val (.bool q):=by first|exact rfl|exact cY)(hz:un (g&& !p) (S.get C z)= .val (.bool r):=by first|exact rfl|exact cY):bU C f call S g ⟨some d, .pick x y z,ty,pos,bt,bS⟩=some ⟨[(d, .val (.bool (if p then q else r)))],[],[]⟩:=by show wR _ (un g (S.get C x)) (un (g&&oq (un g (S.get C x))) (S.get C y)) (un (g&& !oq (un g (S.get C x))) (S.get C z))=_;rw[hx];simp only[oq];rw[hy,hz];rfl
theorem bW{q:Bool}(hx:un g (S.get C x)= .val (.bool true):=by exact rfl)(hy:un (g&&true) (S.get C y)= .val (.bool q):=by first|exact rfl|exact cY):bU C f call S g ⟨some d, .pick x y z,ty,pos,bt,bS⟩=some ⟨[(d, .val (.bool q))],[],[]⟩:=by show wR _ (un g (S.get C x)) (un (g&&oq (un g (S.get C x))) (S.get C y)) (un (g&& !oq (un g (S.get C x))) (S.get C z))=_;rw[hx];simp only[oq];rw[hy];generalize un (g&& !true) (S.get C z)=w;cases w with|val v=>(cases v<;>rfl)|_=>rfl
theorem bF{q:Bool}(hx:un g (S.get C x)= .val (.bool false):=by exact rfl)(hz:un (g&&true) (S.get C z)= .val (.bool q):=by first|exact rfl|exact cY):bU C f call S g ⟨some d, .pick x y z,ty,pos,bt,bS⟩=some ⟨[(d, .val (.bool q))],[],[]⟩:=by show wR _ (un g (S.get C x)) (un (g&&oq (un g (S.get C x))) (S.get C y)) (un (g&& !oq (un g (S.get C x))) (S.get C z))=_;rw[hx];simp only[oq,Bool.not_false];rw[hz];generalize un (g&&false) (S.get C y)=w;cases w with|val v=>(cases v<;>rfl)|_=>rfl
/-! ### Memory that does not change -/
theorem oI{bb:Bool}{m:Nat}{cs cs':List U}[ha:eK C T bb m](hin:(C.gd f).contains d=true:=by exact rfl)(hx:un g (S.get C x)=v:=by exact gt)(hc:qM bb v=some cs:=by exact rfl)(hz:mM cs=cs':=by exact spine)(hi:fS cs'=true:=by exact rfl):bU C f call S g ⟨some d, .box T x,ty,pos,bt,bS⟩=some ⟨[(d, .bD cs')],[],[]⟩:=by show rW C f S _ T (un g (S.get C x))=_;simp only[rW,ha.mw,hx,hc,fP,hin,hz,hi,Pi,if_true];rfl
theorem bL{m:Nat}{cells cs:List U}[ha:eK C T false m](hx:un g (S.get C x)= .bD cells:=by first|exact rfl|exact cY)(hm:m=1:=by exact rfl)(hv:cells=v::cs:=by exact rfl):bU C f call S g ⟨some d, .load T x,ty,pos,bt,bS⟩=some ⟨[(d,v)],[],[]⟩:=by show mZ C S _ T (un g (S.get C x))=_;subst hm hv;simp[mZ,ha.mw,ha.sz,hx,kH]
theorem gG{m:Nat}{cells cs:List U}[ha:eK C T true m](hx:un g (S.get C x)= .bD cells:=by first|exact rfl|exact cY)(hl:Ha m cells.length=true:=by exact rfl)(hv:cells.take m=cs:=by exact spine):bU C f call S g ⟨some d, .load T x,ty,pos,bt,bS⟩=some ⟨[(d, .agg cs)],[],[]⟩:=by show mZ C S _ T (un g (S.get C x))=_;have hl':m<=cells.length:=Hc hl;simp[mZ,ha.mw,ha.sz,hx,hl',hv,kH]
theorem b5{i off m:Nat}{bb:Bool}{cells:List U}[hf:Fd C T i off m bb](hx:un g (S.get C x)= .bD cells:=by first|exact rfl|exact cY)(h0:Do 0 m=true:=by exact rfl)(hl:Ha off cells.length=true:=by exact rfl)(hz:(C.gd f).contains d=false:=by exact rfl):bU C f call S g ⟨some d, .fieldAddr T x i,ty,pos,bt,bS⟩=some ⟨[(d, .bD (cells.drop off))],[],[]⟩:=by show wO C f _ T i (un g (S.get C x))=_;have hl':off<=cells.length:=Hc hl;have h0':0<m:=of_decide_eq_true (rT h0);simp only[wO,hf.fd,hx,fP,hz];rw[if_pos ⟨h0',hl'⟩];rfl
theorem kj{i off m:Nat}{cells cs:List U}[hf:Fd C T i off m false](hx:un g (S.get C x)= .agg cells:=by first|exact rfl|exact cY)(hm:m=1:=by exact rfl)(hv:cells.drop off=v::cs:=by exact rfl)(hl:Ha (off+1) cells.length=true:=by exact rfl):bU C f call S g ⟨some d, .field T x i,ty,pos,bt,bS⟩=some ⟨[(d,v)],[],[]⟩:=by show BL C _ T i (un g (S.get C x))=_;subst hm;have hl':off+1<=cells.length:=Hc hl;simp[BL,hf.fd,hx,hl',hv,kH]
theorem oK{e:TypeId}{m:Nat}{bb:Bool}{α:Type}{c:α->List U}{q:List α}{i:Int}{r:α}(hi:idx q i=some r)[hu:eL C T (.slice e)][hs:eK C e bb m](hx:un g (S.get C x)= .sl (q.map c):=by first|exact rfl|exact cY)(hy:un g (S.get C y)= .val (.int k i):=by first|exact rfl|exact cY)(h0:Do 0 m=true:=by exact rfl)(hr:(c r).length=m:=by exact rfl):bU C f call S g ⟨some d, .indexAddr T x y,ty,pos,bt,bS⟩=some ⟨[(d, .bD (c r))],[],[]⟩:=by show pY C S _ T (un g (S.get C x)) (fA (un g (S.get C y)))=_;have h0':0<m:=of_decide_eq_true (rT h0);have h1:=afQ (c:=c) hi;unfold idx at h1;split at h1;·{rename_i hp;simp only[hx,hy,fA,pY,hu.ul,hs.sz,if_pos hp,h1,AC];simp[hr,h0']};·cases h1
def cr(s:ByteArray)(i:Int):Option UInt8:=if 0<=i then s[i.toNat]? else none
theorem c8{s:ByteArray}{i:Int}{r:UInt8}(hi:cr s i=some r)[hu:eL C T .string](hx:un g (S.get C x)= .val (.string s):=by first|exact rfl|exact cY)(hy:un g (S.get C y)= .val (.int k i):=by first|exact rfl|exact cY):bU C f call S g ⟨some d, .index T x y,ty,pos,bt,bS⟩=some ⟨[(d, .val (.int .u8 r.toNat))],[],[]⟩:=by show wP C _ T (un g (S.get C x)) (fA (un g (S.get C y)))=_;unfold cr at hi;split at hi;·{rename_i hp;simp only[hx,hy,fA,wP,hu.ul,if_pos hp,hi,AC];rfl};·cases hi
section
variable{e:TypeId}{xs:Array Operand}{ts:Array TypeId}{T:TypeId}
theorem jJ{α:Type}{c:α->List U}{q:List α}(hx:un g (S.get C x)= .sl (q.map c):=by first|exact rfl|exact cY)[hu:eL C T (.slice e)]:bU C f call S g ⟨some d, .call ⟨.builtin .len,⟨[x]⟩,⟨[T]⟩⟩,ty,pos,bt,bS⟩=some ⟨[(d, .val (.int .i64 q.length))],[],[]⟩:=by show tv C _ _ ([x].map fun x=>un g (S.get C x))=_;simp[hx,tv,hu.ul,Ff,Fg,H7]
theorem vt{id:Id}{off m m':Nat}(hx:un g (S.get C x)= .rs id off m':=by first|exact rfl|exact cY)(hm:m'=m:=by first|exact List.length_map _|exact rfl)[hu:eL C T (.slice e)]:bU C f call S g ⟨some d, .call ⟨.builtin .len,⟨[x]⟩,⟨[T]⟩⟩,ty,pos,bt,bS⟩=some ⟨[(d, .val (.int .i64 m))],[],[]⟩:=by show tv C _ _ ([x].map fun x=>un g (S.get C x))=_;simp[hx,tv,hu.ul,Ff,Fg,H7,hm]
theorem e9{s:ByteArray}(hx:un g (S.get C x)= .val (.string s):=by first|exact rfl|exact cY)[hu:eL C T .string]:bU C f call S g ⟨some d, .call ⟨.builtin .len,⟨[x]⟩,⟨[T]⟩⟩,ty,pos,bt,bS⟩=some ⟨[(d, .val (.int .i64 s.size))],[],[]⟩:=by show tv C _ _ ([x].map fun x=>un g (S.get C x))=_;simp[hx,tv,hu.ul,Ff,H7]
end
theorem Ue:([]:List (Nat×Operand)).map (fun p=>(p.1,un g (S.get C p.2)))=[]:=rfl
theorem ajt{i:Nat}{l:List (Nat×Operand)}{l':List (Nat×U)}(hx:un g (S.get C x)=v)(k:l.map (fun p=>(p.1,un g (S.get C p.2)))=l'):((i,x)::l).map (fun p=>(p.1,un g (S.get C p.2)))=(i,v)::l':=by simp[hx,k]
theorem Jk{l:List (Nat×Operand)}{l':List (Nat×U)}(h:l.map (fun p=>(p.1,un g (S.get C p.2)))=l':=by repeat(first|exact Ue|(apply ajt;exact gt))):l.map (fun p=>(p.1,un g (S.get C p.2)))=l':=h
theorem dK{p:List (Nat×Operand)}{hJ cs cs0:List U}{pl:List (Nat×Nat×Bool)}{ps:List (Nat×U)}[hz:mV C T hJ][hp:Pl C T pl](hq:(p.map fun p=>(p.1,un g (S.get C p.2)))=ps:=by exact Jk)(hf:zb pl hJ ps=some cs0:=by exact rfl)(hc:cs0=cs:=by exact spine)(mI:C.yt f d=[]:=by exact rfl):bU C f call S g ⟨some d, .build T ⟨p⟩,ty,pos,bt,bS⟩=some ⟨[(d, .agg cs)],[],[]⟩:=by show wN C f _ T (p.map fun p=>(p.1,un g (S.get C p.2)))=_;rw[hq];simp[wN,hz.hJ,hp.pl,hf,hc,GM,mI,yu]
theorem jl{p:List (Nat×Operand)}{hJ VR cs cs0:List U}{l:List Nat}{pl:List (Nat×Nat×Bool)}{ps:List (Nat×U)}[hz:mV C T hJ][hp:Pl C T pl](mI:C.yt f d=l:=by exact rfl)(Ca:yu l hJ=VR:=by exact rfl)(hq:(p.map fun p=>(p.1,un g (S.get C p.2)))=ps:=by exact Jk)(hf:zb pl VR ps=some cs0:=by exact rfl)(hc:cs0=cs:=by exact spine):bU C f call S g ⟨some d, .build T ⟨p⟩,ty,pos,bt,bS⟩=some ⟨[(d, .agg cs)],[],[]⟩:=by subst Ca;show wN C f _ T (p.map fun p=>(p.1,un g (S.get C p.2)))=_;rw[hq];simp[wN,hz.hJ,hp.pl,hf,hc,GM,mI]
theorem Ft{en:Fn}{fs cs:Array Operand}{fa fb:List U}(ha:(fs.toList.map fun x=>un g (S.get C x))=fa:=by exact spine)(hb:(cs.toList.map fun x=>un g (S.get C x))=fb:=by exact spine):bU C f call S g ⟨some d, .makeFunc en fs cs,ty,pos,bt,bS⟩=some ⟨[(d, .fn en fa fb)],[],[]⟩:=by subst ha hb;rfl
theorem eo{vs:List U}{i:Nat}(hx:un g (S.get C x)= .aL vs:=by first|exact rfl|exact cY)(hi:vs[i]? =some v:=by exact rfl):bU C f call S g ⟨some d, .extract x i,ty,pos,bt,bS⟩=some ⟨[(d,v)],[],[]⟩:=by show BK _ (un g (S.get C x)) i=_;rw[hx];simp[BK,hi]
theorem eV(hx:un g (S.get C x)=v:=by exact gt)(hv:(match v with| .bD _| .mp _ _ _| .fn (.func _) _ _=>true|_=>false)=true:=by exact rfl):bU C f call S g ⟨some d, .nilCheck x,ty,pos,bt,bS⟩=some ⟨[(d,v)],[],[]⟩:=by show Eb _ (un g (S.get C x))=_;rw[hx];cases v with|fn en a b=>(cases en<;>first|rfl|cases hv)|bD _=>(rfl)|mp _ _ _=>(rfl)|_=>cases hv
theorem ag6{P:Program}{ts:Array TypeId}{k:IntKind}{a b:Int}:IT P ts ty [.int k a, .int k b]=some (.int k (max a b)):=by have e:(if b>a then b else a)=max a b:=by{omega};simp[IT,Builtin.max_,Builtin.max2,dL,List.foldlM,bind,Sem.bind,pure,e]
theorem ag8{P:Program}{ts:Array TypeId}{k:IntKind}{a b:Int}:IU P ts ty [.int k a, .int k b]=some (.int k (min a b)):=by have e:(if b<a then b else a)=min a b:=by{omega};simp[IU,Builtin.min_,Builtin.min2,dL,List.foldlM,bind,Sem.bind,pure,e]
theorem Ts{k:IntKind}{a b:Int}{ts:Array TypeId}(hx:un g (S.get C x)= .val (.int k a):=by first|exact rfl|exact cY)(hy:un g (S.get C y)= .val (.int k b):=by first|exact rfl|exact cY):bU C f call S g ⟨some d, .call ⟨.builtin .max,⟨[x,y]⟩,ts⟩,ty,pos,bt,bS⟩=some ⟨[(d, .val (.int k (max a b)))],[],[]⟩:=by show(match j5 ([x,y].map fun x=>un g (S.get C x))with|some vs=>nD _ (IT C.P ts ty vs)|none=>none)=_;simp only[H2,H3,hx,hy,j5,Hb,ag6];rfl
theorem Tt{k:IntKind}{a b:Int}{ts:Array TypeId}(hx:un g (S.get C x)= .val (.int k a):=by first|exact rfl|exact cY)(hy:un g (S.get C y)= .val (.int k b):=by first|exact rfl|exact cY):bU C f call S g ⟨some d, .call ⟨.builtin .min,⟨[x,y]⟩,ts⟩,ty,pos,bt,bS⟩=some ⟨[(d, .val (.int k (min a b)))],[],[]⟩:=by show(match j5 ([x,y].map fun x=>un g (S.get C x))with|some vs=>nD _ (IU C.P ts ty vs)|none=>none)=_;simp only[H2,H3,hx,hy,j5,Hb,ag8];rfl
/-! ### Parts of slices and strings -/
def slc{α:Type}(l:List α)(lo hi:Option Int):Option (List α):=(bounds (lo.map some) (hi.map some) l.length).map fun p=>(l.take p.2).drop p.1
def fc(s:ByteArray)(lo hi:Option Int):Option ByteArray:=(bounds (lo.map some) (hi.map some) s.size).map fun p=>s.extract p.1 p.2
theorem Hw:(none.map fun y=>fA (un g (S.get C y)))=(none:Option Int).map some:=rfl
theorem Hx{n:Int}(h:un g (S.get C y)= .val (.int k n):=by first|exact rfl|exact cY):((some y).map fun y=>fA (un g (S.get C y)))=(some n).map some:=by show some (fA (un g (S.get C y)))=_;rw[h];rfl
theorem Bo{α:Type}{c:α->List U}{q:List α}{m:Nat}(hc:∀x,(c x).length=m):(q.map c).all (·.length==m)=true:=by simp[hc]
theorem Ty{e:TypeId}{α:Type}{c:α->List U}{q r:List α}{lo hi:Option Operand}{lo' hi':Option Int}{m:Nat}{bb:Bool}(hr:slc q lo' hi'=some r)[hu:eL C T (.slice e)][hs:eK C e bb m](hx:un g (S.get C x)= .sl (q.map c):=by first|exact rfl|exact cY)(h1:(lo.map fun y=>fA (un g (S.get C y)))=lo'.map some:=by first|exact Hw|exact Hx)(h2:(hi.map fun y=>fA (un g (S.get C y)))=hi'.map some:=by first|exact Hw|exact Hx)(h0:Do 0 m=true:=by exact rfl)(hl:∀x,(c x).length=m:=by exact fun _=>rfl):bU C f call S g ⟨some d, .slice T x lo hi none,ty,pos,bt,bS⟩=some ⟨[(d, .sl (r.map c))],[],[]⟩:=by unfold slc at hr;obtain⟨p,hp,rfl⟩:=Option.map_eq_some_iff.1 hr;show rZ C S _ T (un g (S.get C x)) _ _=_;have h0':0<m:=of_decide_eq_true (rT h0);rw[hx];simp only[rZ,hu.ul,hs.sz,h1,h2,List.length_map,hp,AC];rw[if_pos ⟨h0',Bo hl⟩];simp[ret,put]
theorem kK{s r:ByteArray}{lo hi:Option Operand}{lo' hi':Option Int}(hr:fc s lo' hi'=some r)[hu:eL C T .string](hx:un g (S.get C x)= .val (.string s):=by first|exact rfl|exact cY)(h1:(lo.map fun y=>fA (un g (S.get C y)))=lo'.map some:=by first|exact Hw|exact Hx)(h2:(hi.map fun y=>fA (un g (S.get C y)))=hi'.map some:=by first|exact Hw|exact Hx):bU C f call S g ⟨some d, .slice T x lo hi none,ty,pos,bt,bS⟩=some ⟨[(d, .val (.string r))],[],[]⟩:=by show rZ C S _ T (un g (S.get C x)) (lo.map fun y=>fA (un g (S.get C y))) (hi.map fun y=>fA (un g (S.get C y)))=_;unfold fc at hr;obtain⟨p,hp,rfl⟩:=Option.map_eq_some_iff.1 hr;rw[hx,h1,h2];simp only[rZ,hu.ul,hp,AC];rfl
end
open Go
theorem ab5{t:TypeId}(e:cJ):gE (iU t e)=true:=by cases e<;>rfl
theorem adl{t:TypeId}{e:cJ}:ey (iU t e)=iU t e:=by cases e<;>rfl
theorem Sv{t:TypeId}{e:cJ}{p:Id}:imp p (iU t e)=(iU t e,[]):=by cases e<;>rfl
theorem afW{t:TypeId}{e:cJ}{p:Id}{j:Nat}:fG p j [iU t e]=([iU t e],[]):=by cases e<;>rfl
/-! ### Owned cells become objects -/
section
variable{α:Type}{c:α->List U}{q:List α}{p:Id}{j:Nat}{l l0 l':List U}{v v':U}{wr:List (Id×Option Rows)}{rows:Rows}
theorem amb:cc p j []=([],[]):=rfl
theorem ama(hl:l=v::l0)(hv:cc p j [v]=([v],[]))(k:cc p (j+1) l0=(l',wr)):cc p j l=(v::l',wr):=by subst hl;cases v<;>simp_all[cc]
theorem amc{m:Nat}(hl:l= .own (q.map c) m::l0)(k:cc p (j+1) l0=(l',wr)):cc p j l=(.rs (j::p) 0 m::l',(j::p,some (q.map c))::wr):=by subst hl;simp[cc,k]
theorem A2(h:cc p j l=(l',wr):=by repeat'(first|exact amb|(apply ama;exact rfl;(first|exact rfl|exact arL|exact VC))|(apply amc;exact rfl)|(apply arM;exact rfl)|(apply arN;exact rfl))):cc p j l=(l',wr):=h
theorem af2{m:Nat}:imp p (.own (q.map c) m)=(.rs p 0 m,[(p,some (q.map c))]):=by simp[imp]
theorem af1(h:cc p 0 l=(l',wr)):imp p (.agg l)=(.agg l',wr):=by simp[imp,h]
theorem af3(h:cc p 0 l=(l',wr)):imp p (.bh l)=(.mp p 0 0,(p,some [l'])::wr):=by simp[imp,h]
theorem afY:fG p j []=([],[]):=rfl
theorem afX(hl:l=v::l0)(hv:fG p j [v]=([v],[]))(k:fG p (j+1) l0=(l',wr)):fG p j l=(v::l',wr):=by subst hl;cases v with|own rows m=>(simp[fG]at hv)|bh cells=>(simp[fG]at hv)|fH rows=>(simp[fG]at hv)|agg cs=>(simp only[fG,PP,Prod.mk.injEq,List.cons.injEq,U.agg.injEq,and_true]at hv;simp[fG,k,hv.1,hv.2])|aL vs=>(simp[fG]at hv)|_=>simp[fG,k]
theorem afZ{m:Nat}(hl:l= .own (q.map c) m::l0)(k:fG p (j+1) l0=(l',wr)):fG p j l=(.rs (j::p) 0 m::l',(j::p,some (q.map c))::wr):=by subst hl;simp[fG,k]
theorem afV{w1 w2:List (Id×Option Rows)}{a a':List U}(hl:l= .agg a::l0)(h:cc (j::p) 0 a=(a',w1))(k:fG p (j+1) l0=(l',w2)):fG p j l=(.agg a'::l',w1++w2):=by subst hl;simp[fG,k,h]
theorem af5(h:fG p 0 l=(l',wr)):imp p (.aL l)=(.aL l',wr):=by simp[imp,h]
theorem Cf(h:imp p v=(v',wr):=by first|exact(rfl:imp _ (.val _)=(.val _,[]))|exact(rfl:imp _ (.sl _)=(.sl _,[]))|exact Sv|exact af4|exact af2|exact aoO|exact aoP|(apply af1;exact A2)|(apply af3;exact A2)|(apply af5;repeat'(first|exact afY|(apply afX;exact rfl;(first|exact rfl|exact afW|exact aoN))|(apply afZ;exact rfl)|(apply aoM;exact rfl)|(apply afV;exact rfl;exact A2)))|exact rfl):imp p v=(v',wr):=h
theorem ahb{n:Nat}{vs:List U}:aO n [] vs=⟨n,fun _=> .aW,fun _=>none⟩:=rfl
theorem aha{n s:Nat}{t:Nat->U}{h:Id->Option (Option Rows)}{l:List Nat}{vs:List U}(hi:imp [s] v=(v,[]))(k:aO n l vs=⟨n,t,h⟩):aO n (s::l) (v::vs)=⟨n,au t s v,h⟩:=by simp[aO,k,hi,bE]
theorem ag9{n s:Nat}{t:Nat->U}{h:Id->Option (Option Rows)}{l:List Nat}{vs:List U}(hi:imp [s] v=(v',wr))(k:aO n l vs=⟨n,t,h⟩):aO n (s::l) (v::vs)=⟨n,au t s v',bE h wr⟩:=by simp[aO,k,hi]
theorem M6{n:Nat}{t:Nat->U}{h:Id->Option (Option Rows)}{l:List Nat}{vs:List U}(k:aO n l vs=⟨n,t,h⟩:=by repeat'(first|exact ahb|(apply aha;first|exact rfl|exact Sv|exact af4)|(apply ag9;exact Cf))):aO n l vs=⟨n,t,h⟩:=k
end
section
variable{C:aF}{f:FuncId}{call:gK}{c:Code}{Q:Exit×aj->Prop}{n:Nat}{t:Nat->U}{h:Id->Option (Option Rows)}{l:List Nat}{vs:List U}
theorem mk(k:W C f call c ⟨n,t,h⟩ Q)(hm:aO n l vs=⟨n,t,h⟩:=by exact M6):W C f call c (aO n l vs) Q:=by rw[hm];exact k
theorem ic{e:Exit}(k:Q (e,⟨n,t,h⟩))(hm:aO n l vs=⟨n,t,h⟩:=by exact M6):Q (e,aO n l vs):=by rw[hm];exact k
end
/-! ### Packing -/
def QE{α:Type}(a b:List α):List α:=b.take (min b.length a.length)++a.drop (min b.length a.length)
theorem KJ{α:Type}(a b:List α):(QE a b).length=a.length:=by unfold QE;rw[List.length_append,List.length_take,H4];omega
section
variable{L:Id->Option (Option Rows)}{n:Nat}{α:Type}{c:α->List U}{q:List α}{id:Id}{cs cs':List U}{ids is:List Id}{x v:U}
theorem wT [hc:qC c](q:List α):fy (q.map c)=true:=acI c q hc.fl
theorem zY{m m':Nat}(h:m=m':=by first|exact rfl|exact List.length_map _|(first|(with_reducible assumption)|assumption)|(symm;(first|(with_reducible assumption)|assumption))|(simp only[List.length_map,List.length_set,KJ];done)|(simp only[List.length_map,List.length_set,KJ];first|(first|(with_reducible assumption)|assumption)|(symm;(first|(with_reducible assumption)|assumption)))|(simp only[List.length_map,List.length_set,KJ, *];done)):m=m':=h
theorem ajg{y:U×List Id}:∀{a:U},flat a=true->pk L (n+1) a=some y->y=(a,[]):=by intro a hf h;cases a with|agg cs=>(simp only[flat]at hf;simp[pk,kn,hf]at h;exact h.symm)|aL cs=>(simp only[flat]at hf;simp[pk,kn,hf]at h;exact h.symm)|own rs m=>(simp only[flat]at hf;simp[pk,hf]at h;exact h.symm)|bh cs=>(simp only[flat]at hf;simp[pk,hf]at h;exact h.symm)|fn k a b=>(simp only[pk]at h;split at h;·{simpa using h.symm};·cases h)|rs _ _ _=>(simp[flat]at hf)|mp _ _ _=>(simp[flat]at hf)|mr _=>(simp[flat]at hf)|dV _ _=>(simp[flat]at hf)|cI=>(simp[flat]at hf)|_=>simp[pk]at h;exact h.symm
theorem Rm:∀{cs:List U}{y:List U×List Id},dJ cs=true->fF (pk L (n+1)) cs=some y->y=(cs,[])|[],y,_,h=>by{simp[fF]at h;exact h.symm}|c::cs,y,hf,h=>by simp only[dJ,GT]at hf;simp only[fF,Hd,PQ]at h;obtain⟨u,hu,v,hv,rfl⟩:=h;obtain rfl:=ajg hf.1 hu;obtain rfl:=Rm hf.2 hv;rfl
theorem T4{y:List U×List Id}(h:fF (pk L (n+1)) cs=some y):kn (pk L (n+1)) cs=some y:=by unfold kn;split;·{rename_i hf;rw[Rm hf h]};·exact h
theorem ajf{w:Value}(hx:x= .val w:=by exact rfl):pk L (n+1) x=some (.val w,[]):=by rw[hx];rfl
theorem aje{r:Rows}(hx:x= .sl r:=by exact rfl):pk L (n+1) x=some (.sl r,[]):=by rw[hx];rfl
theorem ajc{r:List U}(hx:x= .bD r:=by exact rfl):pk L (n+1) x=some (.bD r,[]):=by rw[hx];rfl
theorem ai7{t:TypeId}{e:cJ}(hx:x=iU t e:=by first|exact rfl|exact JH):pk L (n+1) x=some (iU t e,[]):=by rw[hx];cases e<;>rfl
theorem ajb(hx:x= .cI:=by exact rfl):pk L (n+1) x=some (.own [] 0,[]):=by rw[hx];rfl
theorem ajd{m:Nat}[hc:qC c](hx:x= .rs id 0 m:=by exact rfl)(hh:L id=some (some (q.map c)):=by exact rfl)(hl:m=q.length:=by exact zY):pk L (n+1) x=some (.own (q.map c) q.length,[id]):=by rw[hx,hl];exact ajh hh (by simp) (wT q)
theorem ai6(hx:x= .agg cs:=by exact rfl)(hf:dJ cs=true:=by exact rfl):pk L (n+1) x=some (.agg cs,[]):=by rw[hx];simp[pk,kn,hf]
theorem ai5(hx:x= .agg cs)(h:fF (pk L (n+1)) cs=some (cs',ids)):pk L (n+2) x=some (.agg cs',ids):=by rw[hx,show pk L (n+2) (.agg cs)=(kn (pk L (n+1)) cs).map fun x=>(.agg x.1,x.2)from rfl,T4 h];rfl
theorem aja(hx:x= .mp id 0 0:=by exact rfl)(hh:L id=some (some [cs]):=by exact rfl)(hf:dJ cs=true:=by exact rfl):pk L (n+1) x=some (.bh cs,[id]):=by rw[hx];simp[pk,kn,hh,hf]
theorem ai9(hx:x= .mp id 0 0)(hh:L id=some (some [cs]))(h:fF (pk L (n+1)) cs=some (cs',ids)):pk L (n+2) x=some (.bh cs',id::ids):=by have e:pk L (n+2) (.mp id 0 0)=match L id with|some (some [cs])=>if 0=0∧0=0 then(kn (pk L (n+1)) cs).map fun x=>(.bh x.1,id::x.2)else none|_=>none:=rfl;rw[hx,e,hh];simp only[and_self,if_true,T4 h];rfl
theorem ai8{k:Fn}{a b:List U}(hx:x= .fn k a b:=by exact rfl)(hf:(fS a&&fS b)=true:=by exact rfl):pk L (n+1) x=some (.fn k a b,[]):=by rw[hx];simp only[GT]at hf;simp[pk,hf.1,hf.2]
theorem Ej{p:U->Option (U×List Id)}(hx:cs=[]:=by exact rfl):fF p cs=some ([],[]):=by rw[hx];rfl
theorem Ei{p:U->Option (U×List Id)}{a b:U}{as bs:List U}{i1 i2:List Id}(hx:cs=a::as)(h:p a=some (b,i1))(k:fF p as=some (bs,i2)):fF p cs=some (b::bs,i1++i2):=by subst hx;simp[fF,h,k]
theorem ajk{t:Nat->U}:k9 L t []=some ([],[]):=rfl
theorem ajj{t:Nat->U}{s:Nat}{sl:List Nat}{vs:List U}(h1:pk L 9 (t s)=some (v,ids))(h2:k9 L t sl=some (vs,is)):k9 L t (s::sl)=some (v::vs,ids++is):=by rw[aiO,h1,AC,h2];rfl
end
/-! ### One row of a list, open -/
section
variable{α:Type}{c c':α->List U}{q:List α}{k:Nat}{x x':α}{r r':List U}
end
/-! ### Packing -/
section
variable{L:Id->Option (Option Rows)}{n m:Nat}{α:Type}{c c':α->List U}{q:List α}{k:Nat}{x x':α}{r r':List U}{id:Id}{ids:List Id}{v:U}
end
section
variable{L:Id->Option (Option Rows)}{n:Nat}{α:Type}{c:α->List U}{q:List α}{id:Id}{cs cs':List U}{ids is:List Id}{x v:U}
theorem nY{a:U}{y:Option (U×List Id)}(h:pk L n a=y:=by repeat'(first|exact ajf|exact ai7|exact apN|exact apJ|exact aje|exact ajd|exact apP|(apply apS;exact rfl;exact rfl;exact rfl;(first|(with_reducible assumption)|assumption);exact zY;rotate_left;exact rfl)|(apply apR;exact rfl;exact rfl;exact rfl;(first|(with_reducible assumption)|assumption);exact agY;rotate_left;exact rfl)|exact ai6|exact ajc|exact ajb|exact apK|exact aja|exact apH|exact apO|exact apL|exact apU|exact ai8|exact apI|exact apM|exact apG|exact Ej|(apply Ei;exact rfl)|(apply ai5;exact rfl)|(apply ai9;exact rfl;exact rfl)|(apply apT;exact rfl)|(apply apQ;exact rfl;exact rfl;exact rfl;exact rfl)|exact ap9|(apply ap8;exact rfl)|exact apE|(apply apF;exact rfl))):pk L n a=y:=h
theorem Ji{t:Nat->U}{sl:List Nat}{y:Option (List U×List Id)}(h:k9 L t sl=y:=by repeat'(first|exact ajk|(apply ajj;exact nY))):k9 L t sl=y:=h
theorem aq{o:Option (Bool×List Nat)}{slots:List Nat}{t:Nat->U}{vs:List U}(hk:o=some (false,slots):=by exact rfl)(hp:k9 L t slots=some (vs,is):=by exact Ji)(hn:ei is=true:=by exact rfl):fR o ⟨n,t,L⟩=some (aO n slots vs):=by subst hk;show(kQ ⟨n,t,L⟩ slots).map _=_;rw[aj9,hp];simp[hn]
end
/-! ### The same with names kept -/
section
variable{n:Nat}{t t2:Nat->U}{h:Id->Option (Option Rows)}{slots r:List Nat}{l:List (Id×Id)}{hl y:List (Id×Rows)}{α:Type}{c:α->List U}{q:List α}
def fK(n:Nat)(l:List (Nat×U))(h:List (Id×Rows)):aj:=⟨n,dR (fun _=> .aW) l,k7 h⟩
/-! Rows that are flat, cell by cell. -/
theorem Rh{α:Type}{c:α->List U}{q:List α}{m:Nat}[hc:qC c]:flat (.own (q.map c) m)=true:=by simp[flat,wT]
theorem Re{r cs:List U}{a:U}(e:r=a::cs)(h1:flat a=true)(h2:dJ cs=true):dJ r=true:=by subst e;simp[dJ,h1,h2]
theorem acz{rows:Rows}(e:rows=[]:=by exact rfl):fy rows=true:=by subst e;rfl
theorem acA{rows rs:Rows}{r:List U}(e:rows=r::rs)(h1:dJ r=true)(h2:fy rs=true):fy rows=true:=by subst e;simp[fy,h1,h2]
theorem KY{rows:Rows}(k:fy rows=true:=by(repeat'(first|exact wT _|exact acz|(apply acA;exact rfl)|exact acw|(apply Re;exact rfl)|exact rfl|exact acs|exact acy|exact Rh));first|done|fail):fy rows=true:=k
theorem ahd:q6 l t []=dR (fun _=> .aW) []:=rfl
theorem ahc{s:Nat}{v':U}{vs:List (Nat×U)}(he:fQ l (t s)=v')(hr:q6 l t r=dR (fun _=> .aW) vs):q6 l t (s::r)=dR (fun _=> .aW) ((s,v')::vs):=by subst he;simp[q6,hr,dR]
theorem N3 [hc:qC c]:n5 l (q.map c)=some (q.map c):=by simp[n5,wT]
theorem N5{cs cs':List U}(hf:dJ cs=false:=by exact rfl)(h:rB l cs=some cs':=by first|exact rfl|exact aqc):n5 l [cs]=some [cs']:=by simp[n5,fy,hf,CY,h]
theorem N4{rows:Rows}(hf:fy rows=true:=by first|exact rfl|exact KY):n5 l rows=some rows:=by simp[n5,hf]
end
section
variable{l:List (Id×Id)}{α:Type}{c:α->List U}{q:List α}{k:Nat}{x x':α}{r r':List U}
theorem aj6{a:U}(h:flat a=true):x7 l a=some a:=by cases a with|fn k as cs=>(simp only[x7];rw[if_pos (by simpa[flat]using h)])|rs _ _ _=>(simp[flat]at h)|mp _ _ _=>(simp[flat]at h)|mr _=>(simp[flat]at h)|cI=>(simp[flat]at h)|_=>simp only[x7,CU];rw[if_pos h]
theorem F7:∀{as:List U},dJ as=true->rB l as=some as|[],_=>rfl|a::as,h=>by simp only[dJ,GT]at h;simp[rB,aj6 h.1,F7 h.2]
end
section
variable{n:Nat}{t t2:Nat->U}{h:Id->Option (Option Rows)}{slots r:List Nat}{l:List (Id×Id)}{hl y:List (Id×Rows)}{α:Type}{c:α->List U}{q:List α}
theorem ae4{L:Id->Option (Option Rows)}:qS L l []=some []:=rfl
theorem ae3{L:Id->Option (Option Rows)}{r:List (Id×Id)}{o k:Id}{rows bQ:Rows}(h:L o=some (some rows))(hr:n5 l rows=some bQ)(hy:qS L l r=some y):qS L l ((o,k)::r)=some ((k,bQ)::y):=by simp[qS,h,hr,hy]
theorem hnk{L:Id->Option (Option Rows)}{r:List (Id×Id)}(h:qS L l r=some y:=by repeat'(first|exact ae4|(apply ae3;exact rfl;first|exact N3|exact aqo rfl|exact aqq (by(first|(with_reducible assumption)|assumption))|exact N5|exact N4))):qS L l r=some y:=h
theorem ahe{vs:List (Nat×U)}(h:q6 l t slots=dR (fun _=> .aW) vs:=by repeat'(first|exact ahd|(apply ahc;first|exact rfl|exact aqp))):q6 l t slots=dR (fun _=> .aW) vs:=h
def age:U->Bool| .cI=>true|_=>false
theorem Tl{y:aj}(e:(⟨n,t,h⟩:aj)=y:=by exact rfl):lI [] ⟨n,t,h⟩=y:=e
theorem ahA{s:Nat}{sl:List Nat}{y:aj}(hs:age (t s)=false)(k:lI sl ⟨n,t,h⟩=y):lI (s::sl) ⟨n,t,h⟩=y:=by have e:sC ⟨n,t,h⟩ s=⟨n,t,h⟩:=by{simp only[sC];split;·{rename_i h1 _;rw[h1]at hs;cases hs};·rfl};rw[lI,e];exact k
theorem ahz{s:Nat}{sl:List Nat}{y:aj}(hs:t s= .cI)(hh:h [s,s]=none)(k:lI sl ⟨n,au t s (.rs [s,s] 0 0),au h [s,s] (some (some []))⟩=y):lI (s::sl) ⟨n,t,h⟩=y:=by have e:sC ⟨n,t,h⟩ s=⟨n,au t s (.rs [s,s] 0 0),au h [s,s] (some (some []))⟩:=by{simp only[sC,hs,hh]};rw[lI,e];exact k
theorem ahB{y:aj}(k:lI slots ⟨n,t,h⟩=y:=by repeat'(first|with_reducible exact Tl|(apply ahA;first|exact rfl|exact aoZ|exact ao0)|(apply ahz;exact rfl;exact rfl)|exact Tl)):lI slots ⟨n,t,h⟩=y:=k
section
variable{keep:Id->Bool}{o:Id}{ol:List Id}{y0:Option aj}{rows bQ:Rows}{ids:List Id}{r r':List U}{k:Nat}
theorem aa0{α:Type}{g:α->Id}{y0:Option aj}(e:some (⟨n,t,h⟩:aj)=y0:=by exact rfl):kZ keep (List.map g []) ⟨n,t,h⟩=y0:=e
theorem ahh(e:(ei ids&& !ids.contains o)=true):(ei ids&& !ids.contains o)=true:=e
theorem aaY(hh:h o=some (some rows))(hf:fy rows=true)(k:kZ keep ol ⟨n,t,h⟩=y0):kZ keep (o::ol) ⟨n,t,h⟩=y0:=by have e:rU keep ⟨n,t,h⟩ o=some ⟨n,t,h⟩:=by{simp only[rU,hh,hf,if_true]};rw[kZ,e];exact k
theorem aa4(hh:h o=some (some rows))(hf:fy rows=false)(hc:fW (mX h keep) rows=some (bQ,ids))(hn:(ei ids&& !ids.contains o)=true)(k:kZ keep ol ⟨n,t,bE h ((o,some bQ)::ids.map fun i=>(i,none))⟩=y0):kZ keep (o::ol) ⟨n,t,h⟩=y0:=by have e:rU keep ⟨n,t,h⟩ o=some ⟨n,t,bE h ((o,some bQ)::ids.map fun i=>(i,none))⟩:=by{simp only[rU,hh,hf,hc,hn,if_true];rfl};rw[kZ,e];exact k
theorem QH(hf:dJ r=false:=by exact rfl)(hc:fF (jg h keep) r=some (r',ids)):mX h keep r=some (r',ids):=by simp[mX,hf,hc]
theorem Rk{p:List U->Option (List U×List Id)}(e:rows=[]:=by exact rfl):fW p rows=some ([],[]):=by subst e;rfl
theorem Rl{p:List U->Option (List U×List Id)}{rs:Rows}{i1 i2:List Id}(e:rows=r::rs)(h1:p r=some (r',i1))(h2:fW p rs=some (bQ,i2)):fW p rows=some (r'::bQ,i1++i2):=by subst e;simp[fW,h1,h2]
theorem Kw{i:Id}{off len:Nat}{x:U}(hx:x= .rs i off len:=by exact rfl)(hk:keep i=true:=by exact rfl):jg h keep x=some (.rs i off len,[]):=by subst hx;simp[jg,hk]
theorem Kx{i:Id}{row off:Nat}{x:U}(hx:x= .mp i row off:=by exact rfl)(hk:keep i=true:=by exact rfl):jg h keep x=some (.mp i row off,[]):=by subst hx;simp[jg,hk]
theorem Kz{i:Id}{off len:Nat}{x x':U}(hx:x= .rs i off len:=by exact rfl)(hk:keep i=false:=by exact rfl)(hp:pk h 8 (.rs i off len)=some (x',ids)):jg h keep x=some (x',ids):=by subst hx;simp[jg,hk,hp]
theorem Ky{x:U}(hx:x= .cI:=by exact rfl):jg h keep x=some (.own [] 0,[]):=by subst hx;rfl
theorem MM:∀{l:List U},dJ l=true->Co keep l=true|[],_=>rfl|a::l,hf=>by simp only[dJ,GT]at hf;simp only[Co,List.all_cons,GT];refine⟨?_,MM hf.2⟩;cases a<;>first|exact hf.1|(simp[flat]at hf)
theorem DY{x:U}(hf:flat x=true):jg h keep x=some (x,[]):=by cases x with|fn k as cs=>(simp only[flat,GT]at hf;simp only[jg];rw[if_pos (by simp[MM hf.1,MM hf.2])])|rs _ _ _=>(simp[flat]at hf)|mp _ _ _=>(simp[flat]at hf)|mr _=>(simp[flat]at hf)|cI=>(simp[flat]at hf)|_=>simp only[jg];rw[if_pos hf]
end
section
variable{α:Type}{c:α->List U}{q:List α}{k:Nat}{x x':α}{r r':List U}{ids:List Id}{keep:Id->Bool}{o:Id}{ol:List Id}{y0:Option aj}
end
theorem aa6{keep:Id->Bool}{ol:List Id}{y0:Option aj}(k:kZ keep ol ⟨n,t,h⟩=y0:=by repeat'(first|with_reducible exact ang|with_reducible exact aa0|(apply aaY;exact rfl;first|exact wT _|exact rfl|exact KY)|(apply anh;exact rfl;exact rfl;(first|(with_reducible assumption)|assumption);exact inferInstance)|(apply aa4;exact rfl;exact rfl)|exact Rk|(apply Rl;exact rfl)|exact abq|(apply QH;exact rfl)|exact Kw|exact Kx|exact Qq|exact Ky|(apply Qs;exact rfl;exact rfl;exact nY)|(apply Kz;exact rfl;exact rfl;exact nY)|(apply Qr;exact rfl;exact rfl;exact nY)|(apply DY;first|exact rfl|exact Rf|exact Ri|exact Rg)|exact Qp|exact Ej|(apply Ei;exact rfl)|exact ahh rfl)):kZ keep ol ⟨n,t,h⟩=y0:=k
/-! Names, one by one. -/
def SO:U->Bool| .fn _ as cs=> !(dJ as&&dJ cs)| .rs _ _ _=>true| .mp _ _ _=>true| .mr _=>true| .agg _=>true|_=>false
section
variable{L:Id->Option (Option Rows)}{m j:Nat}{p i:Id}{acc acc' rQ y l:List (Id×Id)}{a:U}{as cs fh:List U}{S:aj}{s:Nat}{slots:List Nat}
theorem abw(hx:fh=[])(e:acc=y):iT L m p j acc fh=y:=by subst hx;cases m<;>exact e
theorem abD(hx:fh=a::as)(hs:SO a=false)(k:iT L m p (j+1) acc as=y):iT L (m+1) p j acc fh=y:=by subst hx;cases a with|fn f xs cs=>(simp only[SO,Bool.not_eq_false']at hs;simp only[iT,if_pos hs];exact k)|_=>first|exact k|cases hs
theorem Ng{i q:Id}(h:kg i=false)(h2:kg q=false):tS i q=q:=by simp[tS,h,h2]
theorem Nh{i q:Id}(h:kg i=true):tS i q=i:=by simp[tS,h]
variable{nm:Id}
theorem abC{o n:Nat}(hx:fh= .rs i o n::as)(hn:(iu acc i).isSome=false)(hm:tS i (j::p)=nm)(hl:acc++[(i,nm)]=acc')(k:iT L m p (j+1) acc' as=y):iT L (m+1) p j acc fh=y:=by subst hx hl hm;simp only[iT,hn];exact k
theorem abz{o n:Nat}(hx:fh= .mp i o n::as)(hn:(iu acc i).isSome=false)(hh:L i=some (some [cs]))(hm:tS i (j::p)=nm)(hl:acc++[(i,nm)]=acc')(h1:iT L m (j::p) 0 acc' cs=rQ)(k:iT L m p (j+1) rQ as=y):iT L (m+1) p j acc fh=y:=by subst hx hl h1 hm;simp only[iT,hn,hh];exact k
theorem abA{o n:Nat}(hx:fh= .mp i o n::as)(hn:(iu acc i).isSome=true)(k:iT L m p (j+1) acc as=y):iT L (m+1) p j acc fh=y:=by subst hx;simp only[iT,hn];exact k
theorem aby{f:Fn}{xs:List U}(hx:fh= .fn f xs cs::as)(hf:(dJ xs&&dJ cs)=false)(h1:iT L m (j::p) 0 acc (xs++cs)=rQ)(k:iT L m p (j+1) rQ as=y):iT L (m+1) p j acc fh=y:=by subst hx h1;simp only[iT,hf];exact k
theorem ahq(e:acc=l):H0 (fun acc s=>iT S.h 40 [s] 0 acc [S.t s]) acc []=l:=e
theorem ahp(h:iT S.h 40 [s] 0 acc [S.t s]=acc')(k:H0 (fun acc s=>iT S.h 40 [s] 0 acc [S.t s]) acc' slots=l):H0 (fun acc s=>iT S.h 40 [s] 0 acc [S.t s]) acc (s::slots)=l:=by subst h;exact k
theorem aho{Vf:List Nat}(hs:slots=Vf)(h:H0 (fun acc s=>iT S.h 40 [s] 0 acc [S.t s]) [] Vf=l):names S slots=l:=by subst hs;exact h
theorem ahr(h:names S slots=l:=by((with_reducible apply aho);exact spine);repeat'(first|((with_reducible apply ahq);exact rfl)|(with_reducible apply ahp)|((with_reducible apply abw);(with_reducible exact rfl);exact rfl)|((with_reducible apply abD);exact rfl;first|exact rfl|exact ao8|exact apb)|((with_reducible apply abC);exact rfl;exact rfl;(first|exact Ng rfl rfl|exact Nh rfl|exact Ti rfl rfl spine);exact spine)|((with_reducible apply anq);exact rfl;exact rfl)|((with_reducible apply ano);exact rfl;exact rfl;(first|exact Ng rfl rfl|exact Nh rfl|exact Ti rfl rfl spine);exact spine)|((with_reducible apply anp);exact rfl;exact rfl)|((with_reducible apply abA);exact rfl;exact rfl)|((with_reducible apply abz);exact rfl;exact rfl;exact rfl;(first|exact Ng rfl rfl|exact Nh rfl|exact Ti rfl rfl spine);exact spine)|((with_reducible apply ann);exact rfl)|((with_reducible apply aby);exact rfl;exact rfl))):names S slots=l:=h
end
theorem ahy{t0 t1:Nat->U}{h0 h1:Id->Option (Option Rows)}{vs:List (Nat×U)}(e0:lI slots ⟨n,t,h⟩=⟨n,t0,h0⟩:=by exact ahB)(hn:names ⟨n,t0,h0⟩ slots=l:=by first|exact ahr|exact spine)(e1:kZ (vo l) (l.map (·.1)) ⟨n,t0,h0⟩=some ⟨n,t1,h1⟩:=by exact aa6)(hd:(ei (l.map (·.1))&&ei (l.map (·.2))&&l.all (fun x=> !kg x.2||x.1==x.2))=true:=by exact rfl)(hh:qS h1 l l=some hl:=by exact hnk)(ht:q6 l t1 slots=dR (fun _=> .aW) vs:=by exact ahe):norm ⟨n,t,h⟩ slots=some (fK n vs hl):=by subst hn;simp only[norm,I2,e0,e1,AC,xz,hd,if_true,hh,Hb,ht,fK]
theorem c9{o:Option (Bool×List Nat)}{vs:List (Nat×U)}(hk:o=some (true,slots):=by exact rfl)(hm:norm ⟨n,t,h⟩ slots=some (fK n vs hl):=by exact ahy):fR o ⟨n,t,h⟩=some (fK n vs hl):=by subst hk;exact hm
end
section
variable{C:aF}{f:FuncId}{call:gK}{c:Code}{Q:Exit×aj->Prop}{n:Nat}{l:List (Nat×U)}{h:List (Id×Rows)}
theorem jr(k:W C f call c ⟨n,dR (fun _=> .aW) l,k7 h⟩ Q):W C f call c (fK n l h) Q:=k
theorem Az{e:Exit}(k:Q (e,⟨n,dR (fun _=> .aW) l,k7 h⟩)):Q (e,fK n l h):=k
end
section
variable{α:Type}{c c':α->List U}{q:List α}{as bs:List U}{L:Id->Option (Option Rows)}{n:Nat}
/-! Freezing -/
theorem adq [hc:GQ c c']:ey (.own (q.map c) q.length)= .sl (q.map c'):=by have:lC (q.map c)=q.map c':=by{induction q with|nil=>(rfl)|cons x q ih=>simp[lC,hc.ey,ih]};simp only[ey,this];rw[H5 (by simp)]
theorem adk{a b:U}(h:ey a=b)(k:k5 as=bs):k5 (a::as)=b::bs:=by simp[k5,h,k]
theorem adj(h:k5 as=bs):ey (.agg as)= .agg bs:=by simp[ey,h]
theorem ads(h:k5 as=bs):ey (.aL as)= .aL bs:=by simp[ey,h]
theorem adr(h:k5 as=bs):ey (.bh as)= .bD bs:=by simp[ey,h]
theorem Eo{a b:U}(h:ey a=b:=by repeat'(first|exact(rfl:ey (.val _)= .val _)|exact adl|exact an2|exact adq|exact an1|exact(rfl:ey (.sl _)= .sl _)|apply adj|apply ads|apply adr|exact(rfl:k5 []=[])|apply adk|exact rfl)):ey a=b:=h
end
/-! ### Memory of one's own -/
def app{α:Type}(a b:List α):Option (List α):=if a.length+b.length<=4294967296 then some (a++b)else none
theorem Kg{α:Type}{a b r:List α}(h:app a b=some r):a.length+b.length<=4294967296∧r=a++b:=by unfold app at h;split at h;·{exact⟨‹_›,by simpa using h.symm⟩};·cases h
def Fm{α:Type}(n:Int)(z:α):Option (List α):=if 0<=n∧n<=4294967296 then some (Hn n.toNat z)else none
theorem Jv{α:Type}{c:α->List U}{q:List α}[hc:wm c]:sS (q.map c)=true:=by simp only[sS,IH,Hm];exact fun x _=>hc.ce x
section
variable{C:aF}{f:FuncId}{call:gK}{S:aj}{g:Bool}
variable{d:Nat}{ty:TypeId}{pos:String}{bt:Array Edge}{bS:Option (Nat×Bool)}{v v':U}
variable{x y z:Operand}{k:IntKind}{a b:Int}{T dn:TypeId}
theorem cL{cs:List U}[hz:wG C T cs](hn:S.h [d]=none:=by exact rfl)(mI:C.yt f d=[]:=by exact rfl):bU C f call S g ⟨some d, .alloc T,ty,pos,bt,bS⟩=some ⟨[(d, .mp [d] 0 0)],[],[([d],some [cs])]⟩:=by show uJ C f S _ T=_;simp[uJ,hz.VT,hn,mI,yu]
theorem iY{bb:Bool}{m:Nat}{cs:List U}[ha:eK C T bb m](hin:(C.gd f).contains d=false:=by exact rfl)(hx:un g (S.get C x)=v:=by exact gt)(hc:qM bb v=some cs:=by exact rfl)(hn:S.h [d]=none:=by exact rfl):bU C f call S g ⟨some d, .box T x,ty,pos,bt,bS⟩=some ⟨[(d, .mp [d] 0 0)],[],[([d],some [cs])]⟩:=by show rW C f S _ T (un g (S.get C x))=_;simp only[rW,ha.mw,hx,hc,fP,hin,Ps,GE,if_false];rw[if_pos (Sz hn)];rfl
theorem bV{i off off' row m:Nat}{bb:Bool}{id:Id}[hf:Fd C T i off m bb](hx:un g (S.get C x)= .mp id row off':=by first|exact rfl|exact cY)(h0:Do 0 m=true:=by exact rfl):bU C f call S g ⟨some d, .fieldAddr T x i,ty,pos,bt,bS⟩=some ⟨[(d, .mp id row (off'+off))],[],[]⟩:=by show wO C f _ T i (un g (S.get C x))=_;have h0':0<m:=of_decide_eq_true (rT h0);simp[wO,hf.fd,hx,h0']
theorem MQ{bb:Bool}{m row off:Nat}{id:Id}{rows:Rows}{r cs:List U}(ha:lY C T=some bb)(hs:jz C T=some m)(hx:un g (S.get C x)= .mp id row off)(hh:S.h id=some (some rows))(hr:rows[row]? =some r)(hl:Ha (off+m) r.length=true)(hc:cc [d] 0 ((r.drop off).take m)=(cs,[]))(hv:kH bb cs=some v):bU C f call S g ⟨some d, .load T x,ty,pos,bt,bS⟩=some ⟨[(d,v)],[id],[]⟩:=by show mZ C S _ T (un g (S.get C x))=_;rw[hx];have hl':off+m<=r.length:=Hc hl;simp only[mZ,ha,hs,hh,hr,AC,if_pos hl',j9,hc,hv,List.isEmpty_nil,if_true,Hb];rfl
theorem agI{bb:Bool}{m row off:Nat}{id:Id}{rows:Rows}{r cs:List U}{w:Id×Option Rows}{wr:List (Id×Option Rows)}(ha:lY C T=some bb)(hs:jz C T=some m)(hx:un g (S.get C x)= .mp id row off)(hh:S.h id=some (some rows))(hr:rows[row]? =some r)(hl:Ha (off+m) r.length=true)(hc:cc [d] 0 ((r.drop off).take m)=(cs,w::wr))(hf:fresh S.h (w::wr)=true)(hv:kH bb cs=some v):bU C f call S g ⟨some d, .load T x,ty,pos,bt,bS⟩=some ⟨[(d,v)],[id],(id,some (rows.set row (r.take off++cs++r.drop (off+m))))::w::wr⟩:=by show mZ C S _ T (un g (S.get C x))=_;rw[hx];have hl':off+m<=r.length:=Hc hl;simp only[mZ,ha,hs,hh,hr,AC,if_pos hl',j9,hc,hv,Nm,GE,if_false,hf,if_true,Hb];rfl
theorem I4{m row off:Nat}{id:Id}{α:Type}{c:α->List U}{q:List α}{r:α}{cs:List U}(hr:q[row]? =some r)[ha:eK C T false m](hx:un g (S.get C x)= .mp id row off:=by first|exact rfl|exact cY)(hh:S.h id=some (some (q.map c)):=by exact rfl)(hm:m=1:=by exact rfl)(hv:(c r).drop off=v::cs:=by exact rfl)(hu:cc [d] 0 [v]=([v],[]):=by first|exact rfl|exact VC):bU C f call S g ⟨some d, .load T x,ty,pos,bt,bS⟩=some ⟨[(d,v)],[id],[]⟩:=by subst hm;refine MQ (rows:=q.map c) (r:=c r) (cs:=[v]) ha.mw ha.sz hx hh (by simp[hr]) ?_ (by rw[hv];exact hu) rfl;have:=congrArg List.length hv;simp only[H4,QP]at this;apply QQ;omega
theorem cy{m off:Nat}{id:Id}{r cs:List U}[ha:eK C T false m](hx:un g (S.get C x)= .mp id 0 off:=by first|exact rfl|exact cY)(hh:S.h id=some (some [r]):=by exact rfl)(hm:m=1:=by exact rfl)(hv:r.drop off=v::cs:=by exact rfl)(hu:cc [d] 0 [v]=([v],[]):=by first|exact rfl|exact VC):bU C f call S g ⟨some d, .load T x,ty,pos,bt,bS⟩=some ⟨[(d,v)],[id],[]⟩:=by subst hm;refine MQ (rows:=[r]) (r:=r) (cs:=[v]) ha.mw ha.sz hx hh rfl ?_ (by rw[hv];exact hu) rfl;have:=congrArg List.length hv;simp only[H4,QP]at this;apply QQ;omega
theorem aN{m off:Nat}{id:Id}{r cs cs0:List U}[ha:eK C T true m](hx:un g (S.get C x)= .mp id 0 off:=by first|exact rfl|exact cY)(hh:S.h id=some (some [r]):=by exact rfl)(hl:Ha (off+m) r.length=true:=by exact rfl)(hv:(r.drop off).take m=cs0:=by exact spine)(hu:cc [d] 0 cs0=(cs,[]):=by exact A2):bU C f call S g ⟨some d, .load T x,ty,pos,bt,bS⟩=some ⟨[(d, .agg cs)],[id],[]⟩:=MQ (rows:=[r]) (r:=r) ha.mw ha.sz hx hh rfl hl (by rw[hv];exact hu) rfl
theorem ahH{m off:Nat}{id:Id}{r r' cs cs0:List U}{w:Id×Option Rows}{wr:List (Id×Option Rows)}[ha:eK C T true m](hx:un g (S.get C x)= .mp id 0 off:=by first|exact rfl|exact cY)(hh:S.h id=some (some [r]):=by exact rfl)(hl:Ha (off+m) r.length=true:=by exact rfl)(hv:(r.drop off).take m=cs0:=by exact spine)(hu:cc [d] 0 cs0=(cs,w::wr):=by exact A2)(hq:r.take off++cs++r.drop (off+m)=r':=by exact spine)(hf:fresh S.h (w::wr)=true:=by exact rfl):bU C f call S g ⟨some d, .load T x,ty,pos,bt,bS⟩=some ⟨[(d, .agg cs)],[id],(id,some [r'])::w::wr⟩:=by subst hq;exact agI (rows:=[r]) (r:=r) ha.mw ha.sz hx hh rfl hl (by rw[hv];exact hu) hf rfl
def JC(L:List Nat):Operand->Bool| .tmp ta=>L.contains ta|_=>false
theorem Rv{a:Operand}(hin:JC (C.gd f) a=false):zf C f a=none:=by cases a with|tmp ta=>(simp only[JC]at hin;unfold zf;simp only;rw[if_neg (by rw[hin];simp)])|_=>rfl
theorem gu{bb:Bool}{m ta:Nat}{id:Id}{cs cs' r:List U}[ha:eK C T bb m](hin:(C.gd f).contains ta=true:=by exact rfl)(hx:un true (S.get C (.tmp ta))= .mp id 0 0:=by exact rfl)(hy:un true (S.get C y)=v:=by exact gt)(hc:qM bb v=some cs:=by exact rfl)(cq:cs.length=m:=by exact rfl)(hh:S.h id=some (some [r]):=by exact rfl)(hr:r.length=m:=by exact rfl)(hz:mM cs=cs':=by exact spine)(hi:fS cs'=true:=by exact rfl):bU C f call S true ⟨none, .store T (.tmp ta) y,ty,pos,bt,bS⟩=some ⟨[(ta, .bD cs')],[id],[(id,none)]⟩:=by show p0 C f S true _ T (.tmp ta) (un true (S.get C (.tmp ta))) (un true (S.get C y))=_;rw[hx,hy];have e:zf C f (.tmp ta)=some ta:=by{unfold zf;simp only;rw[if_pos hin]};subst hz;simp[p0,ha.mw,ha.sz,hc,cq,hh,hr,e,hi]
theorem aM{bb:Bool}{m off:Nat}{ao:Operand}{id:Id}{cs r r':List U}[ha:eK C T bb m](hin:JC (C.gd f) ao=false:=by exact rfl)(hx:un g (S.get C ao)= .mp id 0 off:=by exact rfl)(hy:un g (S.get C y)=v:=by exact gt)(hc:qM bb v=some cs:=by exact rfl)(cq:cs.length=m:=by exact rfl)(hh:S.h id=some (some [r]):=by exact rfl)(hl:Ha (off+m) r.length=true:=by exact rfl)(hq:r.take off++cs++r.drop (off+m)=r':=by exact spine):bU C f call S g ⟨none, .store T ao y,ty,pos,bt,bS⟩=some ⟨[],[id],[(id,some [r'])]⟩:=by show p0 C f S g _ T ao (un g (S.get C ao)) (un g (S.get C y))=_;rw[hx,hy];have hl':off+m<=r.length:=Hc hl;have e:=Rv (f:=f) hin;subst hq;simp only[p0,ha.mw,ha.sz,hc];rw[if_neg (by simp[cq]),hh];simp only[QR,AC,if_pos hl',e];rfl
theorem Tz{bb:Bool}{m row off:Nat}{ao:Operand}{id:Id}{cs:List U}{α:Type}{c:α->List U}{q:List α}{r:α}(hr:q[row]? =some r)(r':α)[ha:eK C T bb m](hin:JC (C.gd f) ao=false:=by exact rfl)(hx:un g (S.get C ao)= .mp id row off:=by exact rfl)(hy:un g (S.get C y)=v:=by exact gt)(hc:qM bb v=some cs:=by first|exact rfl|exact ani)(cq:cs.length=m:=by exact rfl)(hh:S.h id=some (some (q.map c)):=by exact rfl)(hl:Ha (off+m) (c r).length=true:=by exact rfl)(hq:(c r).take off++cs++(c r).drop (off+m)=c r':=by exact rfl):bU C f call S g ⟨none, .store T ao y,ty,pos,bt,bS⟩=some ⟨[],[id],[(id,some ((q.set row r').map c))]⟩:=by show p0 C f S g _ T ao (un g (S.get C ao)) (un g (S.get C y))=_;rw[hx,hy];have hl':off+m<=(c r).length:=Hc hl;have e:=Rv (f:=f) hin;have e2:(q.map c)[row]? =some (c r):=by{simp[hr]};simp only[p0,ha.mw,ha.sz,hc];rw[if_neg (by simp[cq]),hh];simp only[e2,AC,if_pos hl',e];rw[hq,List.map_set];rfl
theorem Cz{e:TypeId}{m n:Nat}{bb:Bool}{α:Type}{c:α->List U}{q:List α}{i:Int}{r:α}{id:Id}(hi:idx q i=some r)[hu:eL C T (.slice e)][hs:eK C e bb m](hx:un g (S.get C x)= .rs id 0 n:=by first|exact rfl|exact cY)(hh:S.h id=some (some (q.map c)):=by exact rfl)(hl:n=q.length:=by exact zY)(hy:un g (S.get C y)= .val (.int k i):=by first|exact rfl|exact cY)(hr:(c r).length=m:=by exact rfl):bU C f call S g ⟨some d, .indexAddr T x y,ty,pos,bt,bS⟩=some ⟨[(d, .mp id i.toNat 0)],[id],[]⟩:=by show pY C S _ T (un g (S.get C x)) (fA (un g (S.get C y)))=_;have hb:=MB hi;have hn:=vi hi;subst hl;simp only[hx,hy,fA,pY,hu.ul,hs.sz];rw[if_pos hb,hh];simp[hn,hr]
section
variable{α:Type}{c:α->List U}{q q' r:List α}{id qX:Id}{e:TypeId}{m n n':Nat}{T dn:TypeId}
abbrev Br:= @oo
theorem P9{rx:U}{xs ys:Rows}{i1 i2:List Id}(hok:DK C e m=true)(hu:C.P.underlying T=some (.slice e))(hu1:C.P.underlying dn=some (.slice e))(hx:un g (S.get C x)=rx)(xg:rowsOf S.h rx=some (xs,i1))(hy:rowsOf S.h (un g (S.get C y))=some (ys,i2))(hl:ys.all (·.length==m)=true)(hcell:sS ys=true)(hlen:xs.length+ys.length<=tQ)(hn:S.h [d]=none){BJ:bn}(he:Br S ⟨some d, .call ⟨.builtin .append,⟨[x,y]⟩,⟨[T,dn]⟩⟩,ty,pos,bt,bS⟩ d m rx xs ys i1 i2=some BJ):nL C S ⟨some d, .call ⟨.builtin .append,⟨[x,y]⟩,⟨[T,dn]⟩⟩,ty,pos,bt,bS⟩ ⟨[T,dn]⟩ ([x,y].map fun x=>un g (S.get C x))=some BJ:=by unfold DK at hok;split at hok;·{rename_i inf L1;simp only[GT,beq_iff_eq,decide_eq_true_eq]at hok;obtain⟨⟨⟨k1,k2⟩,dF⟩,kF⟩:=hok;subst k1;have e1:(#[T,dn]:Array TypeId)[0]? =some T:=rfl;have e2:(#[T,dn]:Array TypeId)[1]? =some dn:=rfl;simp only[H2,H3,nL,e1,e2,AC,hu1,Bs,hu,L1,hx,xg,hy];rw[if_pos (by simp only[GT,decide_eq_true_eq];exact⟨⟨⟨⟨⟨⟨hl,k2⟩,dF⟩,kF⟩,hlen⟩,hcell⟩,by rw[hn];rfl⟩)];unfold Br at he;exact he};·cases hok
theorem P8{rx:U}{xs ys:Rows}{i1 i2:List Id}(hok:DK C e m=true)(hu:C.P.underlying T=some (.slice e))(hu1:C.P.underlying dn=some (.slice e))(hx:un g (S.get C x)=rx)(xg:rowsOf S.h rx=some (xs,i1))(hy:rowsOf S.h (un g (S.get C y))=some (ys,i2))(hl:ys.all (·.length==m)=true)(hcell:sS ys=true)(hlen:xs.length+ys.length<=tQ)(hn:S.h [d]=none)(hfz:(C.gd f).contains d=false){BJ:bn}(he:Br S ⟨some d, .call ⟨.builtin .append,⟨[x,y]⟩,⟨[T,dn]⟩⟩,ty,pos,bt,bS⟩ d m rx xs ys i1 i2=some BJ):bU C f call S g ⟨some d, .call ⟨.builtin .append,⟨[x,y]⟩,⟨[T,dn]⟩⟩,ty,pos,bt,bS⟩=some BJ:=by show(nL C S _ _ ([x,y].map fun x=>un g (S.get C x))).bind (r0 C f _)=_;have key:nL C S ⟨some d, .call ⟨.builtin .append,⟨[x,y]⟩,⟨[T,dn]⟩⟩,ty,pos,bt,bS⟩ ⟨[T,dn]⟩ ([x,y].map fun x=>un g (S.get C x))=some BJ:=P9 hok hu hu1 hx xg hy hl hcell hlen hn he;rw[key];simp only[AC,r0,fP,hfz,GE,if_false]
theorem UT{L:Id->Option (Option Rows)}(hh:L id=some (some (q.map c))):rowsOf L (.rs id 0 q.length)=some (q.map c,[id]):=by show(match L id with|some (some rs)=>if 0+q.length<=rs.length then some ((rs.drop 0).take q.length,[id])else none|_=>none)=_;rw[hh];simp only;rw[if_pos (by simp),If,H5 (by simp)]
theorem kI(hr:app q q'=some r)[hu:eL C T (.slice e)][hu1:eL C dn (.slice e)][hok:uo C e m](hx:un g (S.get C x)= .rs id 0 n:=by exact rfl)(hh:S.h id=some (some (q.map c)):=by exact rfl)(hlen:n=q.length:=by exact zY)(hy:un g (S.get C y)= .sl (q'.map c):=by exact rfl)(hl:∀x,(c x).length=m:=by exact fun _=>rfl)(hcell:sS (q'.map c)=true:=by first|exact Jv|exact rfl)(hn:S.h [d]=none:=by exact rfl)(hfz:(C.gd f).contains d=false:=by exact rfl):bU C f call S g ⟨some d, .call ⟨.builtin .append,⟨[x,y]⟩,⟨[T,dn]⟩⟩,ty,pos,bt,bS⟩=some ⟨[(d, .rs [d] 0 r.length)],[id],[(id,none),([d],some (r.map c))]⟩:=by obtain⟨h1,rfl⟩:=Kg hr;subst hlen;refine P8 hok.ao hu.ul hu1.ul hx (UT hh) (by rw[hy];rfl) (Bo hl) hcell (by simpa[tQ]using h1) hn hfz ?_;simp only[Br,oo,hh];rw[if_pos (by simp only[GT];refine⟨⟨Bo hl,by simp⟩, ?_⟩;cases q<;>simp)];simp[put,RK]
theorem Nn [aew:wm c](hr:app q q'=some r)[hu:eL C T (.slice e)][hu1:eL C dn (.slice e)][hok:uo C e m](hx:un g (S.get C x)= .rs id 0 n:=by exact rfl)(hh:S.h id=some (some (q.map c)):=by exact rfl)(hlen:n=q.length:=by exact zY)(hy:un g (S.get C y)= .sl (q'.map c):=by exact rfl)(hl:∀x,(c x).length=m:=by exact fun _=>rfl)(hcell:sS (q'.map c)=true:=by first|exact Jv|exact rfl)(hn:S.h [d]=none:=by exact rfl)(hfz:(C.gd f).contains d=true:=by exact rfl):bU C f call S g ⟨some d, .call ⟨.builtin .append,⟨[x,y]⟩,⟨[T,dn]⟩⟩,ty,pos,bt,bS⟩=some ⟨[(d, .sl (r.map c))],[id],[(id,none),([d],none)]⟩:=by obtain⟨h1,rfl⟩:=Kg hr;subst hlen;show(nL C S _ _ ([x,y].map fun x=>un g (S.get C x))).bind (r0 C f _)=_;have key:nL C S ⟨some d, .call ⟨.builtin .append,⟨[x,y]⟩,⟨[T,dn]⟩⟩,ty,pos,bt,bS⟩ ⟨[T,dn]⟩ ([x,y].map fun x=>un g (S.get C x))=some ⟨[(d, .rs [d] 0 (q++q').length)],[id],[(id,none),([d],some ((q++q').map c))]⟩:=by{refine P9 hok.ao hu.ul hu1.ul hx (UT hh) (by rw[hy];rfl) (Bo hl) hcell (by simpa[tQ]using h1) hn ?_;simp only[Br,oo,hh];rw[if_pos (by simp only[GT];refine⟨⟨Bo hl,by simp⟩, ?_⟩;cases q<;>simp)];simp[put,RK]};have hi:lX ((q++q').map c)=true:=by{simp only[lX,IH,Hm];exact fun x _=>aew.im x};rw[key];simp only[AC,r0,fP,hfz,if_true,hi,and_self,put]
theorem ahE(hr:app [] q'=some r)[hu:eL C T (.slice e)][hu1:eL C dn (.slice e)][hok:uo C e m](hx:un g (S.get C x)= .cI:=by exact rfl)(hy:un g (S.get C y)= .sl (q'.map c):=by exact rfl)(hl:∀x,(c x).length=m:=by exact fun _=>rfl)(hcell:sS (q'.map c)=true:=by first|exact Jv|exact rfl)(hn:S.h [d]=none:=by exact rfl)(hfz:(C.gd f).contains d=false:=by exact rfl):bU C f call S g ⟨some d, .call ⟨.builtin .append,⟨[x,y]⟩,⟨[T,dn]⟩⟩,ty,pos,bt,bS⟩=some ⟨[(d, .rs [d] 0 r.length)],[],[([d],some (r.map c))]⟩:=by obtain⟨h1,h2⟩:=Kg hr;simp only[Hk]at h2;subst h2;refine P8 (xs:=[]) (i1:=[]) (i2:=[]) hok.ao hu.ul hu1.ul hx rfl (by rw[hy];rfl) (Bo hl) hcell (by simpa[tQ]using h1) hn hfz ?_;simp[Br,oo,put]
end
theorem ahI{e:TypeId}{m:Nat}{α:Type}{c:α->List U}{dW:α}{hJ:List U}{nn:Int}{r:List α}(hr:Fm nn dW=some r)(Mz:c dW=hJ)[hu:eL C T (.slice e)][hok:uo C e m][hz:wG C e hJ](hx:un g (S.get C x)= .val (.int k nn):=by exact rfl)(hy:un g (S.get C y)= .val (.int k nn):=by exact rfl)(hzl:hJ.length=m:=by exact rfl)(hn:S.h [d]=none:=by exact rfl):bU C f call S g ⟨some d, .makeSlice T x y,ty,pos,bt,bS⟩=some ⟨[(d, .rs [d] 0 r.length)],[],[([d],some (r.map c))]⟩:=by show uN C S _ T (un g (S.get C x)) (un g (S.get C y))=_;unfold Fm at hr;split at hr;·{rename_i hp;obtain rfl:Hn nn.toNat dW=r:=by{simpa using hr};have hok:=hok.ao;unfold DK at hok;split at hok;·{rename_i inf L1;simp only[GT,beq_iff_eq,decide_eq_true_eq]at hok;obtain⟨⟨⟨k1,k2⟩,dF⟩,kF⟩:=hok;simp only[hx,hy,uN,hu.ul,fA,hz.VT,L1];rw[if_pos (by simp only[GT,decide_eq_true_eq];exact⟨⟨⟨⟨by omega,by omega⟩,dF⟩,by omega⟩,by rw[hn];rfl⟩)];simp[put,Mz]};·cases hok};·cases hr
theorem aao{e:TypeId}{bb:Bool}{m len:Nat}{hJ:List U}{ps:List (Nat×U)}{rows:Rows}(hu:C.P.underlying T=some (.slice e))(hz:A5 C e=some hJ)(ha:lY C e=some bb)(hs:jz C e=some m)(h0:(decide (0<m)&&decide (m=hJ.length)&&decide (len*m<=1000))=true)(hf:uP m bb (Hn len hJ) ps=some rows):Bx C T len ps=some rows:=by simp only[Bx,hu,hz,ha,hs,h0,if_true,hf]
theorem ef{e:TypeId}{bb:Bool}{m len:Nat}{hJ:List U}{p:List (Nat×Operand)}{ps:List (Nat×U)}{rows bQ:Rows}[hu:eL C T (.slice e)][hz:mV C e hJ][ha:eK C e bb m](hin:(C.gd f).contains d=true:=by exact rfl)(h0:(decide (0<m)&&decide (m=hJ.length)&&decide (len*m<=1000))=true:=by exact rfl)(hq:(p.map fun p=>(p.1,un g (S.get C p.2)))=ps:=by exact Jk)(hf:uP m bb (Hn len hJ) ps=some rows:=by exact rfl)(Ca:rows.map mM=bQ:=by exact spine)(hi:lX bQ=true:=by exact rfl):bU C f call S g ⟨some d, .buildSlice T len ⟨p⟩,ty,pos,bt,bS⟩=some ⟨[(d, .sl bQ)],[],[]⟩:=by show rX C f S _ T len (p.map fun p=>(p.1,un g (S.get C p.2)))=_;rw[hq];have hb:=aao hu.ul hz.hJ ha.mw ha.sz h0 hf;unfold rX;rw[if_neg (by simp[Ks,hb,Ca,hi])];simp only[uL,hu.ul,hz.hJ,ha.mw,ha.sz,h0,if_true,hf,fP,hin,Ca,hi,Pi];rfl
theorem Ae{e:TypeId}{bb:Bool}{m len:Nat}{hJ:List U}{p:List (Nat×Operand)}{ps:List (Nat×U)}{rows bQ:Rows}[hu:eL C T (.slice e)][hz:mV C e hJ][ha:eK C e bb m](hin:(C.gd f).contains d=false:=by exact rfl)(h0:(decide (0<m)&&decide (m=hJ.length)&&decide (len*m<=1000))=true:=by exact rfl)(hq:(p.map fun p=>(p.1,un g (S.get C p.2)))=ps:=by exact Jk)(hf:uP m bb (Hn len hJ) ps=some rows:=by exact rfl)(hs:rows=bQ:=by exact spine)(hn:S.h [d]=none:=by exact rfl):bU C f call S g ⟨some d, .buildSlice T len ⟨p⟩,ty,pos,bt,bS⟩=some ⟨[(d, .rs [d] 0 len)],[],[([d],some bQ)]⟩:=by show rX C f S _ T len (p.map fun p=>(p.1,un g (S.get C p.2)))=_;subst hs;rw[hq];unfold rX;rw[if_neg (by simp[Ks,fP];intro h;simp[h]at hin)];simp only[uL,hu.ul,hz.hJ,ha.mw,ha.sz,h0,if_true,hf,fP,hin,Ps,GE,if_false];rw[if_pos (Sz hn)];rfl
/-! ### Calls -/
section
variable{L:Id->Option (Option Rows)}{n m:Nat}{α:Type}{c c':α->List U}{q:List α}{id:Id}{as bs cs cs':List U}{is i2:List Id}{x u:U}
theorem Ql{a:U}(h:gE a=true):dh L (n+1) a=some (a,[]):=by cases a with|agg cs=>(simp only[gE]at h;simp[dh,lS,h])|aL cs=>(simp only[gE]at h;simp[dh,lS,h])|fn k a b=>(simp only[gE,GT]at h;simp[dh,lS,h])|_=>first|rfl|simp[gE]at h
theorem aaw{w:Value}(hx:x= .val w:=by exact rfl):dh L (n+1) x=some (.val w,[]):=by rw[hx];rfl
theorem aav{r:Rows}(hx:x= .sl r:=by exact rfl):dh L (n+1) x=some (.sl r,[]):=by rw[hx];rfl
theorem aat(hx:x= .cI:=by exact rfl):dh L (n+1) x=some (.sl [],[]):=by rw[hx];rfl
theorem aar{t:TypeId}{e:cJ}(hx:x=iU t e:=by first|exact rfl|exact JH):dh L (n+1) x=some (iU t e,[]):=by rw[hx];exact Ql (ab5 e)
theorem aas(hx:x=u:=by exact gt)(hi:gE u=true:=by exact rfl):dh L (n+1) x=some (u,[]):=by rw[hx];exact Ql hi
theorem aau [hc:wm c](hx:x= .rs id 0 m:=by exact rfl)(hh:L id=some (some (q.map c)):=by exact rfl)(hl:m=q.length:=by exact zY):dh L (n+1) x=some (.sl (q.map c),[id]):=by subst hx hl;have hi':lX (q.map c)=true:=by{simp only[lX,IH,Hm];exact fun x _=>hc.im x};have e:((q.map c).drop 0).take q.length=q.map c:=by{rw[If,H5 (by simp)]};have e0:dh L (n+1) (.rs id 0 q.length)=match L id with|some (some rs)=>if 0+q.length<=rs.length then(qJ (dh L n) ((rs.drop 0).take q.length)).map fun x=>(.sl x.1,id::x.2)else none|_=>none:=rfl;rw[e0,hh];simp only;rw[if_pos (by simp),e];simp[qJ,hi']
theorem aaq(hx:x= .agg cs)(hi:fS cs=false)(h:fF (dh L n) cs=some (cs',is)):dh L (n+1) x=some (.agg cs',is):=by subst hx;simp[dh,lS,hi,h]
end
/-! ### Borrowing lists whose elements own memory -/
class amv{α:Type}(c:α->List U)(c':outParam (α->List U)):Prop where dh:∀L n x,fF (dh L (n+2)) (c x)=some (c' x,[])Nd:∀x,fS (c x)=false
section
variable{L:Id->Option (Option Rows)}{n m:Nat}{α:Type}{c c':α->List U}{q:List α}{k:Nat}{x x':α}{r r':List U}{id:Id}{ids:List Id}{v:U}
end
section
variable{α:Type}{c c':α->List U}{q:List α}{L:Id->Option (Option Rows)}{n:Nat}{id:Id}{as bs cs cs':List U}{x:U}{is i2:List Id}
theorem Kv{y:Option (U×List Id)}(h:dh L n x=y:=by repeat'(first|exact aaw|exact amQ|exact amR|(apply amS;exact rfl)|exact aar|exact am5|exact aav|exact aau|exact am7|exact anb|exact ana|(apply am8;exact rfl;exact rfl;exact rfl;(first|(with_reducible assumption)|assumption);exact zY;exact inferInstance;rotate_left;exact rfl)|(apply am9;exact rfl;exact rfl;exact rfl;(first|(with_reducible assumption)|assumption);exact agY;exact inferInstance;rotate_left;exact rfl)|exact aas|exact am4|exact aat|exact amV|exact am6|exact amY|exact am1|exact am3|exact am2|exact amZ|exact amX|exact am0|exact amU|exact Ej|(apply Ei;exact rfl)|(apply aaq;exact rfl;exact rfl)|(apply amW;exact rfl;exact rfl;exact rfl)|(apply amT;exact rfl))):dh L n x=y:=h
theorem aai(h:as=[]:=by exact rfl):tc L as=some ([],[]):=by subst h;rfl
theorem aah{a b:U}{z:List Id}(ha:cs=a::as)(h1:dh L 9 a=some (b,is))(h2:tc L as=some (bs,i2))(hz:is++i2=z):tc L cs=some (b::bs,z):=by subst ha hz;unfold tc at*;simp[fF,h1,h2]
theorem blk{y:Option (List U×List Id)}(h:tc L as=y:=by repeat'(first|exact aai|(apply aah;exact rfl;exact Kv)|exact rfl)):tc L as=y:=h
theorem alF{ms:List Nat}(h:as=[]:=by exact rfl):lN L ms as=some ([],[],[],[]):=by subst h;cases ms<;>rfl
section
variable{ms:List Nat}{a b b':U}{i s t z:List Id}
theorem alE(ha:cs=a::as)(h:pk L 9 a=some (b,i))(hf:ey b=b')(k:lN L ms as=some (bs,s,t,z)){u:List Id}(hu:i++z=u):lN L (2::ms) cs=some (b'::bs,s,t,u):=by subst ha hu;simp[lN,k,h,hf]
theorem alG{u:List Id}(ha:cs=a::as)(h:dh L 9 a=some (b,i))(k:lN L ms as=some (bs,s,t,z))(hu:i++s=u):lN L (0::ms) cs=some (b::bs,u,t,z):=by subst ha hu;simp[lN,k,h]
end
theorem alH{ms:List Nat}{y:Option (List U×List Id×List Id×List Id)}(h:lN L ms as=y:=by repeat'(first|exact alF|(apply aqW;exact rfl;exact nY)|(apply alG;exact rfl;exact Kv)|(apply alE;exact rfl;exact nY;exact Eo)|(apply aqX;exact rfl;exact Kv)|exact rfl)):lN L ms as=y:=h
/-! Nothing from elsewhere -/
end
section
variable{cW:Operand}{ts:Array TypeId}{en:FuncId}{as bs cs args:List U}{seen:List Id}{r:U}{wr:List (Id×Option Rows)}{xs:Array Operand}
theorem Ld(hfo:un g (S.get C cW)= .fn (.func en) as bs)(ek:C.ji en=false):mE C (un g (S.get C cW))=none:=by rw[hfo];simp[mE,ek]
theorem KQ{d':Option Tmp}(h:mE C (un g (S.get C cW))=none):bU C f call S g ⟨d', .call ⟨.value cW,xs,ts⟩,ty,pos,bt,bS⟩=(match pathOf C cW with|some p=>wQ S ⟨d', .call ⟨.value cW,xs,ts⟩,ty,pos,bt,bS⟩ p (xs.toList.map fun x=>un g (S.get C x))|none=>if C7 C cW then(match(generalizing:=false)cW with| .func k=>tg C f call S ⟨d', .call ⟨.value cW,xs,ts⟩,ty,pos,bt,bS⟩ k (xs.toList.map fun x=>un g (S.get C x))|_=>none)else tf C f call S ⟨d', .call ⟨.value cW,xs,ts⟩,ty,pos,bt,bS⟩ (un g (S.get C cW)) (xs.toList.map fun x=>un g (S.get C x))):=by show(match mE C (un g (S.get C cW))with|some x=>qL C f call S _ x.1 (x.2.1++(xs.toList.map fun x=>un g (S.get C x))++x.2.2)|none=>_)=_;rw[h];first|rfl|(cases cW<;>rfl)
theorem e8(hc:call en args=some (r,[]))(hfo:un g (S.get C cW)= .fn (.func en) as bs:=by exact rfl)(hb:tc S.h (as++(xs.toList.map fun x=>un g (S.get C x))++bs)=some (args,seen):=by exact blk)(hm:(seen.isEmpty||mine r)=true:=by first|exact rfl|exact S5)(hz:(C.gd f).contains d=false:=by exact rfl)(hi:imp [d] r=(v',wr):=by exact Cf)(hf:fresh S.h wr=true:=by exact rfl)(ht:C7 C cW=false:=by exact rfl)(zH:pathOf C cW=none:=by exact rfl)(hlk:C.look en=false:=by exact rfl)(ek:C.ji en=false:=by exact rfl):bU C f call S g ⟨some d, .call ⟨.value cW,xs,ts⟩,ty,pos,bt,bS⟩=some ⟨[(d,v')],seen,wr⟩:=by rw[KQ (Ld hfo ek)];rw[zH];simp only;rw[ht];simp only[GE,if_false];rw[hfo];simp only[tf,hlk,hb,hc,fP,hz,GE,if_false];rw[if_neg (by cases seen with|nil=>(simp)|cons a l=>simp at hm;simp[hm]),hi];simp only[hf,if_true];rfl
theorem ax(hc:call en args=some (r,[]))(hfo:un g (S.get C cW)= .fn (.func en) as bs:=by exact rfl)(hb:tc S.h (as++(xs.toList.map fun x=>un g (S.get C x))++bs)=some (args,seen):=by exact blk)(hm:(seen.isEmpty||mine r)=true:=by first|exact rfl|exact S5)(hz:(C.gd f).contains d=true:=by exact rfl)(hv:ey r=v:=by exact Eo)(hi:imp [d] v=(v',wr):=by exact Cf)(hf:fresh S.h wr=true:=by exact rfl)(ht:C7 C cW=false:=by exact rfl)(zH:pathOf C cW=none:=by exact rfl)(hlk:C.look en=false:=by exact rfl)(ek:C.ji en=false:=by exact rfl):bU C f call S g ⟨some d, .call ⟨.value cW,xs,ts⟩,ty,pos,bt,bS⟩=some ⟨[(d,v')],seen,wr⟩:=by rw[KQ (Ld hfo ek)];rw[zH];simp only;rw[ht];simp only[GE,if_false];rw[hfo];simp only[tf,hlk,GE,if_false,hb,hc,fP,hz,if_true,hv];rw[if_neg (by cases seen with|nil=>(simp)|cons a l=>simp at hm;simp[hm]),hi];simp only[hf,if_true];rfl
theorem aaE{ms c4:List Nat}{outs:List U}{tk eE:List Id}{back:List (Id×Option Rows)}{nH:List (Id×Option Rows)}(hm:C.Cv en=ms)(hm0:ms.isEmpty=false)(hle:C.c4 en=c4)(ht:lN S.h ms (xs.toList.map fun x=>un g (S.get C x))=some (args,seen,tk,eE))(hc:call en args=some (r,outs))(hv:(if fP C f (some d)then ey r else r)=v)(hb:kq S.h (xs.toList.map fun x=>un g (S.get C x)) c4 outs=some back)(h1:(ei (tk++eE)&&tj seen (tk++eE))=true)(h2:(seen.isEmpty||mine r&&outs.all mine)=true)(h3:(ei (back.map (·.1))&&(back.all fun x=>tk.contains x.1))=true)(hi:imp [d] v=(v',nH))(hf:fresh S.h nH=true)(hw:nH++(back++(tk++eE).map fun i=>(i,none))=wr)(zH:C.path en=none)(ek:C.ji en=false:=by exact rfl):bU C f call S g ⟨some d, .call ⟨.value (.func en),xs,ts⟩,ty,pos,bt,bS⟩=some ⟨[(d,v')],seen,wr⟩:=by rw[KQ (Ld (as:=[]) (bs:=[]) rfl ek)];simp only[pathOf,zH];have e0:C7 C (.func en)=true:=by{simp[C7,hm,hm0]};subst hw hm hle hv;rw[e0,if_pos rfl];unfold tg;simp only[ht,hc,hb,hi];simp only[GT]at h1 h3;rw[if_pos (by simp only[GT];exact⟨⟨⟨⟨⟨h1.1,h1.2⟩,h2⟩,h3.1⟩,h3.2⟩,hf⟩)];rfl
end
end
open Go
section
variable{L:Id->Option (Option Rows)}{id:Id}{cs old as bs args:List U}{n m:Nat}{α:Type}{c:α->List U}{q q0:List α}{w w2:List (Id×Option Rows)}{a b:U}{j:Nat}{l:List Nat}
theorem akh(hb:bs=[]:=by exact rfl):kq L args [] bs=some []:=by subst hb;rfl
theorem rlk{y:Option (List (Id×Option Rows))}(h:kq L args l bs=y:=by repeat'(first|exact akh|exact aqw|exact aqz|exact aqy|exact aqx (by(first|(with_reducible assumption)|assumption))|exact aqf|(apply aqe;exact rfl;exact rfl)|(apply aqv;exact rfl;exact rfl)|(apply aqu;exact rfl)|(apply aqm;exact rfl;exact rfl))):kq L args l bs=y:=h
end
section
variable{C:aF}{f:FuncId}{call:gK}{S:aj}{g:Bool}
variable{d:Nat}{ty:TypeId}{pos:String}{bt:Array Edge}{bS:Option (Nat×Bool)}{v v':U}
theorem hY{xs:Array Operand}{ts:Array TypeId}{en:FuncId}{ms c4:List Nat}{args outs:List U}{seen tk eE:List Id}{r:U}{back nH wr:List (Id×Option Rows)}(hc:call en args=some (r,outs))(hm:C.Cv en=ms:=by exact rfl)(hm0:ms.isEmpty=false:=by exact rfl)(hle:C.c4 en=c4:=by exact rfl)(ht:lN S.h ms (xs.toList.map fun x=>un g (S.get C x))=some (args,seen,tk,eE):=by exact alH)(hz:(C.gd f).contains d=true:=by exact rfl)(hv:ey r=v:=by exact Eo)(hb:kq S.h (xs.toList.map fun x=>un g (S.get C x)) c4 outs=some back:=by exact rlk)(h1:(ei (tk++eE)&&tj seen (tk++eE))=true:=by exact rfl)(h2:(seen.isEmpty||mine r&&outs.all mine)=true:=by first|exact rfl|exact aom S5 apg)(h3:(ei (back.map (·.1))&&(back.all fun x=>tk.contains x.1))=true:=by exact rfl)(hi:imp [d] v=(v',nH):=by exact Cf)(hf:fresh S.h nH=true:=by exact rfl)(hw:nH++(back++(tk++eE).map fun i=>(i,none))=wr:=by exact spine)(zH:C.path en=none:=by exact rfl)(ek:C.ji en=false:=by exact rfl):bU C f call S g ⟨some d, .call ⟨.value (.func en),xs,ts⟩,ty,pos,bt,bS⟩=some ⟨[(d,v')],seen,wr⟩:=aaE hm hm0 hle ht hc (v:=v) (by simp only[fP,hz,if_true,hv]) hb h1 h2 h3 hi hf hw zH ek
end
theorem dz{C:aF}{f:FuncId}{a b:Nat}{args:List U}{r:Option (U×List U)}(h:den C a f args=r)(e:a=b):den C b f args=r:=e▸h
/-! ### Functions -/
def xD:List U->U|[r]=>r|vs=> .aL vs
def Fin(C:aF)(rv:List ResultVar)(c4:List Nat)(r:U)(outs:List U)(x:Exit×aj):Prop:=(x.1= .ret∨x.1= .normal)∧∃vs ids is,mg C x.2 rv=some (vs,ids)∧k9 x.2.h x.2.t c4=some (outs,is)∧ei (ids++is)=true∧xD vs=r
section
variable{C:aF}{f:FuncId}{call:gK}{S:aj}{T:TypeId}
variable{rv:List ResultVar}{c4:List Nat}{vs outs cs r:List U}{ids is:List Id}{v v':U}
theorem aks:mg C S []=some ([],[]):=rfl
theorem aku{t:Nat}(h:pk S.h 9 (un true (S.t t))=some (v,ids))(hr:mg C S rv=some (vs,is)):mg C S (.tmp t::rv)=some (v::vs,ids++is):=by show(x8 C S (.tmp t)).bind _=_;simp only[x8,h,AC,hr,Hb]
theorem akt{a m:Nat}{id:Id}{bb:Bool}[ha:eK C T bb m](hx:un true (S.t a)= .mp id 0 0)(hh:S.h id=some (some [r]))(hl:Ha m r.length=true)(hv:kH bb (r.take m)=some v)(h:pk S.h 9 v=some (v',ids))(hr:mg C S rv=some (vs,is)):mg C S (.cell a T::rv)=some (v'::vs,id::ids++is):=by show(x8 C S (.cell a T)).bind _=_;have hl':0+m<=r.length:=by{have:=Hc hl;omega};simp only[x8,ha.mw,ha.sz,hx,hh,QR,if_pos hl',If,hv,AC,h,hr,Hb]
theorem IY{cells:List U}(hc:cells=cs:=by exact spine):kH true cells=some (.agg cs):=by subst hc;rfl
theorem Oa{y:Option (List U×List Id)}(h:mg C S rv=y:=by repeat'(first|with_reducible exact aks|((with_reducible apply aku);exact nY)|((with_reducible apply akt);exact rfl;exact rfl;exact rfl;(first|exact IY|exact M5 rfl);exact nY)|((with_reducible apply aqt);exact rfl;exact rfl;(first|exact IY|exact M5 rfl);exact nY))):mg C S rv=y:=h
theorem fin{r:U}(h:mg C S rv=some (vs,ids):=by exact Oa)(hp:k9 S.h S.t c4=some (outs,is):=by exact Ji)(hn:ei (ids++is)=true:=by exact rfl)(hr:xD vs=r:=by exact rfl):Fin C rv c4 r outs (.ret,S):=⟨.inl rfl,vs,ids,is,h,hp,hn,hr⟩
theorem cR{fn:Func}{c:Code}{args:List U}{nn N:Nat}{r:U}{t:Nat->U}{h:Id->Option (Option Rows)}{sl:List Nat}(hf:C.P.funcs[f]? =some fn)(hn:fn.ntmps=N)(hr:fn.results.toList=rv)(k:W C f (den C nn) c ⟨N,t,h⟩ (Fin C rv c4 r outs))(hb:fn.body=some c:=by exact rfl)(he:C.ext f=none:=by exact rfl)(hle:C.c4 f=c4:=by exact rfl)(hl:Ha args.length N=true:=by exact rfl)(mI:H1 args.length=sl:=by exact rfl)(hm:aO N sl args=⟨N,t,h⟩:=by exact M6)(ek:C.ji f=false:=by exact rfl):den C (nn+1) f args=some (r,outs):=by obtain⟨⟨e,s⟩,h1,h2,vs,ids,is,h3,h6,h4,h5⟩:=k;subst hr hn hle mI;show tr C (den C nn) lZ f args=_;unfold tr;simp only[he,hf,hb,ek,GE,if_false,if_pos (Hc hl),hm,h1,AC];have cN:finish C fn (C.c4 f) args s=some (r,outs):=by{unfold finish;simp only at h3 h6;rw[h3,h6];simp only[h4,if_true];rw[<-h5];congr 2;cases vs with|nil=>(rfl)|cons a l=>cases l<;>rfl};rcases h2 with h2|h2;·{simp only at h2;subst h2;exact cN};·simp only at h2;subst h2;exact cN
end
/-! ### Loops -/
def cH.go{cv ρ ρ':Type}(kb:cv->Option ρ)(Cp:ρ'->Option ρ):cH cv ρ'->Option ρ| .dP x=>kb x| .ret r=>Cp r
section
variable{C:aF}{f:FuncId}{call:gK}{S:aj}{Q:Exit×aj->Prop}{c:Code}{σ cv ρ ρ':Type}{r:ρ}{k:Nat}{o:Option (Bool×List Nat)}{rep:σ->aj}[mq]
def wq(o:Option (Bool×List Nat))(rep:σ->aj)(Rel:cv->Exit×aj->Prop)(y:cx σ cv)(x:Exit×aj):Prop:=match y with| .next s'=>x.1= .normal∧fR o x.2=some (rep s')| .out v=>x.1≠ .normal∧Rel v x
def w5(C:aF)(f:FuncId)(c:Code):Option (Bool×List Nat):=match ou c with|some i=>some (C.shr f i,C.live f i)|none=>some (false,[])
theorem SY{step:σ->Option (cx σ cv)}(Rel:cv->Exit×aj->Prop){iw:σ}{v:cv}(hL:Loop step iw=some v)(h0:fR (w5 C f c) S=some (rep iw))
  (body:∀s y,step s=some y->W C f call c (rep s) (wq (w5 C f c) rep Rel y)):∃x,c6 C f call lZ (.loop c) S=some x∧Rel v x:=by
 obtain⟨m,hm⟩:=GX hL
 have key:∀(b:Bool)(slots:List Nat),w5 C f c=some (b,slots)->(match ou c with|some i=>C.live f i|none=>[])=slots->(match ou c with|some i=>C.shr f i|none=>false)=b->∃x,c6 C f call lZ (.loop c) S=some x∧Rel v x:=by
  intro b slots hk hs hb
  rw[hk]at h0 body
  cases b with
  |true=>
   have key:∀m s,LoopN step m s=some v->∃x,lZ aj (fun S'=>c6 C f call lZ c S') (fun S'=>norm S' slots) (rep s)=some x∧Rel v x:=by
    intro m
    induction m with
    |zero=>intro s h;simp[LoopN]at h
    |succ m ih=>
     intro s h
     simp only[LoopN,Hd]at h
     obtain⟨y,h1,h2⟩:=h
     obtain⟨⟨e,S'⟩,h3,h4⟩:=body s y h1
     rw[SZ]
     simp only[h3,AC]
     cases y with
     |next s'=>
      obtain⟨rfl,h5⟩:=h4
      have h5:norm S' slots=some (rep s'):=h5
      simp only[h5,AC]
      exact ih s' h2
     |out o'=>
      obtain⟨h5,h6⟩:=h4
      obtain rfl:o'=v:=by simpa using h2
      cases e with
      |normal=>exact absurd rfl h5
      |_=>exact⟨_,rfl,h6⟩
   obtain⟨x,h3,h4⟩:=key m iw hm
   refine⟨x, ?_,h4⟩
   subst hs
   simp only[c6]
   refine(if_pos hb).trans ?_
   exact(congrArg (R0 · _) (show norm S _=some (rep iw)from h0)).trans h3
  |false=>
   have h0:(kQ S slots).map (aO S.n slots)=some (rep iw):=h0
   obtain⟨alT,adK,adL⟩:=Option.map_eq_some_iff.1 h0
   have hn:∀s,(∃yf,aO S.n slots yf=rep s)->(rep s).n=S.n:=fun s⟨yf,h⟩=>by rw[<-h,Ct]
   have key:∀m s yf,aO S.n slots yf=rep s->LoopN step m s=some v->∃x,lZ (List U) (fun cG=>c6 C f call lZ c (aO S.n slots cG)) (fun S'=>kQ S' slots) yf=some x∧Rel v x:=by
    intro m
    induction m with
    |zero=>intro s yf _ h;simp[LoopN]at h
    |succ m ih=>
     intro s yf So h
     simp only[LoopN,Hd]at h
     obtain⟨y,h1,h2⟩:=h
     obtain⟨⟨e,S'⟩,h3,h4⟩:=body s y h1
     rw[SZ]
     simp only[So,h3,AC]
     cases y with
     |next s'=>
      obtain⟨rfl,h5⟩:=h4
      have h5:(kQ S' slots).map (aO S'.n slots)=some (rep s'):=h5
      obtain⟨alS,Li,Ib⟩:=Option.map_eq_some_iff.1 h5
      have EG:S'.n=S.n:=by rw[Q2 Fi _ _ _ h3];exact hn s ⟨yf,So⟩
      rw[EG]at Ib
      simp only[Li,AC]
      exact ih s' alS Ib h2
     |out o'=>
      obtain⟨h5,h6⟩:=h4
      obtain rfl:o'=v:=by simpa using h2
      cases e with
      |normal=>exact absurd rfl h5
      |_=>exact⟨_,rfl,h6⟩
   obtain⟨x,h3,h4⟩:=key m iw alT adL hm
   refine⟨x, ?_,h4⟩
   subst hs
   simp only[c6]
   refine(if_neg fun e=>PH (hb.symm.trans e)).trans ?_
   exact(congrArg (R0 · _) adK).trans h3
 unfold w5 at key
 split at key
 ·exact key _ _ rfl rfl rfl
 ·exact key _ _ rfl rfl rfl
def GZ(C:aF)(f:FuncId)(k:Nat)(me:cv->aj)(v:cv)(x:Exit×aj):Prop:=x.1= .exit k∧fR (C.qO f k) x.2=some (me v)
def Dx(C:aF)(f:FuncId)(k:Nat)(me:cv->aj)(R:ρ'->Exit×aj->Prop):cH cv ρ'->Exit×aj->Prop| .dP v,x=>GZ C f k me v x| .ret r,x=>R r x
theorem cw{step:σ->Option (cx σ cv)}{iw:σ}{wj:cv->Option ρ}(rep:σ->aj)(me:cv->aj)(hF:(Loop step iw).bind wj=some r)(h0:fR (w5 C f c) S=some (rep iw))(body:∀s y,step s=some y->W C f call c (rep s) (wq (w5 C f c) rep (GZ C f k me) y))(post:∀v,wj v=some r->Q (.normal,me v)):W C f call (.block k (.loop c)) S Q:=by obtain⟨v,h1,h2⟩:=Hv hF;obtain⟨⟨e,S'⟩,h3,rfl,h5⟩:=SY (GZ C f k me) h1 h0 body;exact cF ⟨_,h3,Up h5 (post v h2)⟩
theorem ki{step:σ->Option (cx σ (cH cv ρ'))}{iw:σ}{kb:cv->Option ρ}{Cp:ρ'->Option ρ}(rep:σ->aj)(me:cv->aj)(R:ρ'->Exit×aj->Prop)(hF:(Loop step iw).bind (cH.go kb Cp)=some r)(h0:fR (w5 C f c) S=some (rep iw))(body:∀s y,step s=some y->W C f call c (rep s) (wq (w5 C f c) rep (Dx C f k me R) y))(post:∀v,kb v=some r->Q (.normal,me v))(tA:∀v,Cp v=some r->∀x,R v x->qF C f k Q x):W C f call (.block k (.loop c)) S Q:=by obtain⟨v,h1,h2⟩:=Hv hF;obtain⟨x,h3,h4⟩:=SY (Dx C f k me R) h1 h0 body;cases v with|dP v=>(obtain⟨e,S'⟩:=x;obtain⟨rfl,h5⟩:=h4;exact cF ⟨_,h3,Up h5 (post v h2)⟩)|ret v=>exact cF ⟨_,h3,tA v h2 _ h4⟩
variable{Rel:cv->Exit×aj->Prop}{me:cv->aj}{R:ρ'->Exit×aj->Prop}
theorem ln{s':σ}{y:cx σ cv}(hy:some (cx.next s')=some y)(hc:fR o S=some (rep s')):wq o rep Rel y (.normal,S):=by cases hy;exact⟨rfl,hc⟩
theorem lx{v:cv}{y:cx σ cv}(hy:some (cx.out v)=some y)(hc:fR (C.qO f k) S=some (me v)):wq o rep (GZ C f k me) y (.exit k,S):=by cases hy;exact⟨by simp,rfl,hc⟩
theorem lH{v:cv}{y:cx σ (cH cv ρ')}(hy:some (cx.out (cH.dP v))=some y)(hc:fR (C.qO f k) S=some (me v)):wq o rep (Dx C f k me R) y (.exit k,S):=by cases hy;exact⟨by simp,rfl,hc⟩
theorem lr{v:ρ'}{y:cx σ (cH cv ρ')}(hy:some (cx.out (cH.ret v))=some y)(h:R v (.ret,S)):wq o rep (Dx C f k me R) y (.ret,S):=by cases hy;exact⟨by simp,h⟩
theorem lrr{v:ρ'}{y:cx σ (cH cv ρ')}{x:Exit×aj}(hy:some (cx.out (cH.ret v))=some y)(hx:x.1≠ .normal)(h:R v x):wq o rep (Dx C f k me R) y x:=by cases hy;exact⟨hx,h⟩
end
theorem inj{α:Type}{a b:α}(h:some a=some b):a=b:=Ix h
open Go
/-! ### Operations -/
section
variable{C:aF}{f:FuncId}{call:gK}{S:aj}{g:Bool}
variable{d:Nat}{ty:TypeId}{pos:String}{bt:Array Edge}{bS:Option (Nat×Bool)}{v v':U}
variable{x y z:Operand}{k:IntKind}{a b:Int}{T dn:TypeId}
end
/-! ### At a function's end -/
section
variable{C:aF}{S:aj}{rv:List ResultVar}{c4:List Nat}{vs outs:List U}{ids is:List Id}{r:U}
theorem bN(h:mg C S rv=some ([r],ids):=by exact Oa)(hp:k9 S.h S.t c4=some (outs,is):=by exact Ji)(hn:ei (ids++is)=true:=by exact rfl):Fin C rv c4 r outs (.ret,S):=⟨.inl rfl,[r],ids,is,h,hp,hn,rfl⟩
theorem c7{a b:U}(h:mg C S rv=some (a::b::vs,ids):=by exact Oa)(hp:k9 S.h S.t c4=some (outs,is):=by exact Ji)(hn:ei (ids++is)=true:=by exact rfl):Fin C rv c4 (.aL (a::b::vs)) outs (.ret,S):=⟨.inl rfl,_,ids,is,h,hp,hn,rfl⟩
end
end Go.Ab
