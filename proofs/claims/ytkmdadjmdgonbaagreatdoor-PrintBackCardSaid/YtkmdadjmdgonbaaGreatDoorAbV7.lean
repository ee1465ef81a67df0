import Derived.Test.YtkmdadjmdgonbaaGreatDoorAbFn
import Derived.Test.YtkmdadjmdgonbaaGreatDoorAbSimp
open Bool renaming true->bv,false->ci
open Option renaming some->ac,none->am
open Bool renaming false_eq_true->Do,and_eq_true->GE,noConfusion->PP,and_self->Ps,false_and->QP
open Classical renaming choose_spec->Nm
open List renaming nil_append->Hd,all_eq_true->Hk,replicate->Hm,foldl->Hn,range->H1,map_cons->H2,map_nil->H3,length_drop->H4,take_of_length_le->H5,all_map->IH,drop_zero->If,isEmpty_cons->PH,append_nil->PQ,length_cons->QQ,getElem?_cons_zero->RK,map_append->R0
open Nat renaming blt->A0,ble->GT,le_of_ble_eq_true->Hb,ble_eq_true_of_le->QR
open Option renaming bind_some->AC,map_some->Ha,bind_eq_some_iff->Hc,map_eq_some_iff->Pi,bind->Sp
open Option.some renaming inj->Ix,injEq->Kd
set_option linter.all false
namespace Go.Ab
open Go
abbrev gB:=FuncId->List U->Option (U×List U)
abbrev bE(n:Int):Int:=IntKind.i64.wrap n
def idx{α:Type}(l:List α)(i:Int):Option α:=if 0<=i then l[i.toNat]? else am
theorem afO{α β:Type}{c:α->β}{l:List α}{i:Int}{x:α}(h:idx l i=ac x):idx (l.map c) i=ac (c x):=by unfold idx at*;split at h;·{rw[if_pos ‹_›];simp[h]};·cases h
theorem qh{α:Type}{l:List α}{i:Int}{x:α}(h:idx l i=ac x):l[i.toNat]? =ac x:=by unfold idx at h;split at h;·{exact h};·cases h
theorem Mf{α:Type}{l:List α}{i:Int}{x:α}(h:idx l i=ac x):0<=i∧i<(l.length:Nat):=by unfold idx at h;split at h;·{rename_i hp;refine⟨hp, ?_⟩;rcases Nat.lt_or_ge i.toNat l.length with h'|h';·{omega};·rw[List.getElem?_eq_none h']at h;cases h};·cases h
theorem GG{α β:Type}{o:Option α}{k:α->Option β}{r:β}(h:o.bind k=ac r):∃x,o=ac x∧k x=ac r:=Option.bind_eq_some_iff.1 h
theorem bb{α β:Type}{o:Option α}{k:α->Option β}{r:β}{G:Prop}(h:o.bind k=ac r)(g:∀x,o=ac x->k x=ac r->G):G:=by obtain⟨x,h1,h2⟩:=GG h;exact g x h1 h2
def W(C:aH)(f:FuncId)(call:gB)(c:Code)(S:ai)(Q:Exit×ai->Prop):Prop:=∃x,cT C f call lH c S=ac x∧Q x
theorem ar{P:Prop}(h:P:=by exact rfl):P:=h
def eG(C:aH)(f:FuncId)(call:gB)(ops:Array Oper)(m:Option (List Nat))(i:Nat)(l:List Oper)(ks:List eD)(S:ai)(K:List eD->ai->Prop)(Z:List eD->oX->Prop):Prop:=∃x,js C f call ops m i l S=ac x∧match x.1 with| .inl S'=>K (ks++x.2) S'| .inr p=>Z (ks++x.2) p
def zg(_:List eD)(_:oX):Prop:=False
abbrev nR(C:aH)(f:FuncId)(call:gB)(ops:Array Oper)(l:List Oper)(S:ai)(K:List eD->ai->Prop):Prop:=eG C f call ops am 0 l [] S K zg
theorem Ah{C:aH}{f:FuncId}{call:gB}{ops:Array Oper}{l:List Oper}{S:ai}{K:List eD->ai->Prop}(h:nR C f call ops l S K):∃x,l7 C f call ops 0 l S=ac x∧K ([]++x.2) x.1:=by obtain⟨⟨z,ks⟩,h1,h2⟩:=h;cases z with|inl S'=>(exact⟨(S',ks),Kq h1,h2⟩)|inr p=>exact h2.elim
/-! ### Loops -/
inductive cM(σ b9:Type)where|next(s:σ)|out(x:b9)
inductive cF(b9 ρ:Type)where|dh(x:b9)|ret(r:ρ)
def LoopN{σ b9:Type}(step:σ->Option (cM σ b9)):Nat->σ->Option b9|0,_=>am|m+1,s=>(step s).bind λy=>match y with| .next s'=>LoopN step m s'| .out x=>ac x
open Classical in noncomputable def CS{σ b9:Type}(step:σ->Option (cM σ b9))(s:σ):Option b9:=if h:∃x m,LoopN step m s=some x then some (Classical.choose h)else none
theorem Jf{σ b9:Type}{step:σ->Option (cM σ b9)}:∀{m:Nat}{s:σ}{x:b9}(k:Nat),LoopN step m s=ac x->LoopN step (m+k) s=ac x|0,_,_,_,h=>by{simp[LoopN]at h}|m+1,s,x,k,h=>by rw[Nat.add_right_comm];simp only[LoopN,Hc]at h|-;obtain⟨y,h1,h2⟩:=h;refine⟨y,h1, ?_⟩;cases y with|next s'=>(exact Jf k h2)|out x=>exact h2
theorem We{σ b9:Type}{step:σ->Option (cM σ b9)}{m m':Nat}{s:σ}{x y:b9}(h1:LoopN step m s=ac x)(h2:LoopN step m' s=ac y):x=y:=by have e1:=Jf m' h1;have e2:=Jf m h2;rw[Nat.add_comm]at e2;rw[e1]at e2;exact Ix e2
theorem Wd{σ b9:Type}{step:σ->Option (cM σ b9)}{s:σ}{x:b9}(h:CS step s=ac x):∃m,LoopN step m s=ac x:=by unfold CS at h;split at h;·{rename_i hx;simp only[Kd]at h;subst h;exact Nm hx};·cases h
class mA where
 cq:∀{σ b9:Type},(σ->Option (cM σ b9))->σ->Option b9
 ok:∀{σ b9:Type}{step:σ->Option (cM σ b9)}{s:σ}{x:b9},cq step s=ac x->∃m,LoopN step m s=ac x
noncomputable instance agX:mA:=⟨CS,Wd⟩
@[reducible]def Ty:mA:=⟨λstep s=>LoopN step 100000 s,λh=>⟨100000,h⟩⟩
def Loop [mA]{σ b9:Type}(step:σ->Option (cM σ b9))(s:σ):Option b9:=mA.cq step s
theorem Jg [mA]{σ b9:Type}{step:σ->Option (cM σ b9)}{s:σ}{x:b9}(h:Loop step s=ac x):∃m,LoopN step m s=ac x:=mA.ok h
theorem Jh{σ b9:Type}{step:σ->Option (cM σ b9)}{m:Nat}{s:σ}{x:b9}(h:LoopN step m s=ac x):Loop step s=ac x:=by show CS step s=ac x;unfold CS;have hx:∃x m,LoopN step m s=ac x:=⟨x,m,h⟩;rw[dif_pos hx];obtain⟨m',h'⟩:=Nm hx;rw[We h' h]
theorem fP{σ b9:Type}(step:σ->Option (cM σ b9))(s:σ):Loop step s=(step s).bind λy=>match y with| .next s'=>Loop step s'| .out x=>ac x:=by apply Option.ext;intro x;constructor;·{intro h;obtain⟨m,h⟩:=Jg h;cases m with|zero=>(simp[LoopN]at h)|succ m=>simp only[LoopN,Hc]at h|-;obtain⟨y,h1,h2⟩:=h;refine⟨y,h1, ?_⟩;cases y with|next s'=>(exact Jh h2)|out x=>exact h2};·intro h;simp only[Hc]at h;obtain⟨y,h1,h2⟩:=h;cases y with|next s'=>(obtain⟨m,h3⟩:=Jg h2;exact Jh (m:=m+1) (by simp only[LoopN,h1,AC,h3]))|out x=>exact Jh (m:=1) (by simp only[LoopN,h1,AC];exact h2)
section
variable{C:aH}{f:FuncId}{call:gB}{S:ai}{n:Nat}{t:Nat->U}{h:Id->Option (Option Rows)}
variable{Q:Exit×ai->Prop}{a b c:Code}{ρ:Type}{r:ρ}{l:List Oper}{id k:Nat}
/-! ### Code -/
def CZ(C:aH)(f:FuncId)(call:gB)(b:Code)(Q:Exit×ai->Prop)(x:Exit×ai):Prop:=match x.1 with| .normal=>∃S',fD (jQ C f b) x.2=ac S'∧W C f call b S' Q|_=>Q x
theorem sq(h:W C f call a S (CZ C f call b Q)):W C f call (.seq a b) S Q:=by obtain⟨⟨e,s⟩,h1,h2⟩:=h;cases e with|normal=>(obtain⟨S',h5,y,h3,h4⟩:=h2;exact⟨y,by simp only[cT,h1,AC,h5,h3],h4⟩)|_=>exact⟨_,by simp only[cT,h1,AC],h2⟩
theorem aI(h:W C f call b S Q)(hk:jQ C f b=none:=by exact rfl):CZ C f call b Q (.normal,S):=⟨S,by rw[hk];rfl,h⟩
theorem aV(h:Q (.ret,S)):CZ C f call b Q (.ret,S):=h
theorem gq(h:Q (.exit k,S)):CZ C f call b Q (.exit k,S):=h
theorem cd{x:Operand}{p:Bool}{A B:Option ρ}(hF:(if p=bv then A else B)=ac r)(h1:A=ac r->W C f call a S Q)(h2:B=ac r->W C f call b S Q)(hc:un bv (S.get C x)= .val (.bool p):=by exact rfl):W C f call (.cond x a b) S Q:=by cases p with|true=>(obtain⟨y,h3,h4⟩:=h1 (by simpa using hF);exact⟨y,by simp only[cT,hc];simpa using h3,h4⟩)|false=>obtain⟨y,h3,h4⟩:=h2 (by simpa using hF);exact⟨y,by simp only[cT,hc];simpa using h3,h4⟩
theorem aaT{x:Operand}(h1:W C f call a S Q)(hc:un bv (S.get C x)= .val (.bool bv):=by exact rfl):W C f call (.cond x a b) S Q:=by obtain⟨y,h3,h4⟩:=h1;exact⟨y,by simp only[cT,hc];simpa using h3,h4⟩
theorem aaS{x:Operand}(h1:W C f call b S Q)(hc:un bv (S.get C x)= .val (.bool ci):=by exact rfl):W C f call (.cond x a b) S Q:=by obtain⟨y,h3,h4⟩:=h1;exact⟨y,by simp only[cT,hc];simpa using h3,h4⟩
theorem sk(h:Q (.normal,S)):W C f call .skip S Q:=⟨_,rfl,h⟩
theorem rt(h:Q (.ret,S)):W C f call .ret S Q:=⟨_,rfl,h⟩
theorem ex(h:Q (.exit k,S)):W C f call (.exit k) S Q:=⟨_,rfl,h⟩
def pZ(C:aH)(f:FuncId)(k:Nat)(Q:Exit×ai->Prop)(x:Exit×ai):Prop:=match x.1 with| .normal=>∃S',fD (C.p9 f k) x.2=ac S'∧Q (.normal,S')| .exit j=>if j=k then∃S',fD (C.p9 f k) x.2=ac S'∧Q (.normal,S')else Q (.exit j,x.2)|_=>Q x
theorem bt(h:W C f call c S (pZ C f k Q)):W C f call (.block k c) S Q:=by obtain⟨⟨e,s⟩,h1,h2⟩:=h;cases e with|normal=>(obtain⟨S',h3,h4⟩:=h2;exact⟨_,by simp only[cT,h1,AC,h3,Ha],h4⟩)|exit j=>(simp only[pZ]at h2;split at h2;·{rename_i hj;obtain⟨S',h3,h4⟩:=h2;exact⟨_,by simp only[cT,h1,AC,hj,if_true,h3,Ha],h4⟩};·rename_i hj;exact⟨_,by simp only[cT,h1,AC,hj,if_false],h2⟩)|_=>exact⟨_,by simp only[cT,h1,AC],h2⟩
theorem bA(h:Q (.normal,S))(hk:C.p9 f k=none:=by exact rfl):pZ C f k Q (.normal,S):=⟨S,by rw[hk];rfl,h⟩
theorem bf(h:Q (.ret,S)):pZ C f k Q (.ret,S):=h
theorem Nx(h:Q (.normal,S))(hk:C.p9 f k=none:=by exact rfl):pZ C f k Q (.exit k,S):=by simp only[pZ,if_true];exact⟨S,by rw[hk];rfl,h⟩
theorem ajT{j:Nat}(h:Q (.exit j,S))(hj:Nat.beq j k=false:=by exact rfl):pZ C f k Q (.exit j,S):=by have:j≠k:=λe=>by{subst e;simp at hj};simpa[pZ,this]using h
/-! ### Places where the state is told anew -/
theorem UB{S':ai}(hc:fD (C.p9 f k) S=ac S')(h:Q (.normal,S')):pZ C f k Q (.exit k,S):=by simp only[pZ,if_true];exact⟨S',hc,h⟩
def CY(σ:Type)(o:Option (Bool×List Nat))(rep:σ->ai)(oq:σ->Option ρ)(r:ρ)(Q:Exit×ai->Prop)(x:Exit×ai):Prop:=match x.1 with| .normal=>∃s,fD o x.2=ac (rep s)∧oq s=ac r|_=>Q x
theorem eX{σ:Type}(rep:σ->ai)(oq:σ->Option ρ)(ha:W C f call a S (CY σ (jQ C f b) rep oq r Q))(hk:∀s,oq s=ac r->W C f call b (rep s) Q):W C f call (.seq a b) S Q:=by refine sq ?_;obtain⟨⟨e,s⟩,h1,h2⟩:=ha;refine⟨_,h1, ?_⟩;cases e with|normal=>(obtain⟨s,h3,h4⟩:=h2;exact⟨_,h3,hk s h4⟩)|_=>exact h2
theorem bK{σ:Type}{o:Option (Bool×List Nat)}{rep:σ->ai}{oq:σ->Option ρ}(s:σ)(hF:oq s=ac r)(hc:fD o S=ac (rep s)):CY σ o rep oq r Q (.normal,S):=⟨s,hc,hF⟩
theorem iq{σ:Type}{o:Option (Bool×List Nat)}{rep:σ->ai}{oq:σ->Option ρ}(h:Q (.ret,S)):CY σ o rep oq r Q (.ret,S):=h
theorem ajU{σ:Type}{o:Option (Bool×List Nat)}{rep:σ->ai}{oq:σ->Option ρ}(h:Q (.exit k,S)):CY σ o rep oq r Q (.exit k,S):=h
section
variable{σ:Type}{rep:σ->ai}{oq:σ->Option ρ}
end
/-! ### Regions -/
section
variable{K:List eD->ai->Prop}{Z:List eD->oX->Prop}{m:Option (List Nat)}{ops:Array Oper}{i:Nat}{ks:List eD}
def ug(C:aH)(f:FuncId)(call:gB)(id:Nat)(ops:Array Oper)(draw:Bool)(S:ai)(Q:Exit×ai->Prop):Prop:=∃S',(oA C f call id ops draw S).bind (l6 C f id)=ac S'∧Q (.normal,S')
def xS(C:aH)(f:FuncId)(id:Nat)(P:ai->Prop)(ks:List eD)(S:ai):Prop:=nv (C.fT f id) ks=bv∧P S
def xP(l:List Nat)(K:ai->Prop)(S:ai):Prop:=∃S',kr l S=ac S'∧K S'
def mz(p:Nat)(lo tc:List Nat)(K:ai->Prop)(S:ai):Prop:=∃S',nD p lo S=ac S'∧xP tc K S'
theorem w0{ops:Array Oper}{jf:Bool}(h:ug C f call id ops jf S Q)(ha:C.l9 f id=[]:=by exact rfl)(hn:C.mP f id=false:=by exact rfl):W C f call (.region id ops jf) S Q:=by obtain⟨S',h1,h2⟩:=h;exact⟨_,by simp[cT,hn,ha,kr,h1],h2⟩
theorem VO{ops:Array Oper}{jf:Bool}(h:xP (C.l9 f id) (λia=>ug C f call id ops jf ia Q) S)(hn:C.mP f id=false:=by exact rfl):W C f call (.region id ops jf) S Q:=by obtain⟨ia,h0,S',h1,h2⟩:=h;exact⟨_,by simp[cT,hn,h0,h1],h2⟩
theorem fX{ops:Array Oper}{jf:Bool}(h:ug C f call id ops jf S λx=>W C f call b x.2 Q)(ha:C.l9 f id=[])(hk2:jQ C f b=am)(hn:C.mP f id=ci):W C f call (.seq (.region id ops jf) b) S Q:=sq (w0 (hn:=hn) (by obtain⟨S',h1,h2⟩:=h;exact⟨S',h1,aI h2 hk2⟩) ha)
theorem Cf{ops:Array Oper}{jf:Bool}(h:xP (C.l9 f id) (λia=>ug C f call id ops jf ia λx=>W C f call b x.2 Q) S)(hk2:jQ C f b=none:=by exact rfl)(hn:C.mP f id=false:=by exact rfl):W C f call (.seq (.region id ops jf) b) S Q:=sq (VO (hn:=hn) (by obtain⟨ia,h0,S',h1,h2⟩:=h;exact⟨ia,h0,S',h1,aI h2 hk2⟩))
theorem QD(h:nR C f call ⟨l⟩ l S λ_ S'=>Q (.normal,S'))(hk:C.jF f id=none:=by exact rfl)(hz:C.kz f id=[]:=by exact rfl)(ho:C.jy f id=[]:=by exact rfl):ug C f call id ⟨l⟩ ci S Q:=by obtain⟨x,h1,h2⟩:=Ah h;exact⟨_,by simp[oA,h1,hk,fD,l6,hz,ho,kr,nD],h2⟩
theorem QE(h:nR C f call ⟨l⟩ l S (xS C f id λS'=>Q (.normal,S')))(hk:C.jF f id=none:=by exact rfl)(hz:C.kz f id=[]:=by exact rfl)(ho:C.jy f id=[]:=by exact rfl):ug C f call id ⟨l⟩ bv S Q:=by obtain⟨x,h1,h2,h3⟩:=Ah h;simp only[Hd]at h2;exact⟨_,by simp[oA,h1,h2,hk,fD,l6,hz,ho,kr,nD],h3⟩
theorem Dm(h:nR C f call ⟨l⟩ l S λ_ S'=>mz (1000+id) (C.jy f id) (C.kz f id) (λbZ=>Q (.normal,bZ)) S')(hk:C.jF f id=none:=by exact rfl):ug C f call id ⟨l⟩ ci S Q:=by obtain⟨x,h1,bJ,h0,bZ,h2,h3⟩:=Ah h;exact⟨_,by simp[oA,h1,hk,fD,l6,h0,h2],h3⟩
theorem AG(h:nR C f call ⟨l⟩ l S (xS C f id λS'=>mz (1000+id) (C.jy f id) (C.kz f id) (λbZ=>Q (.normal,bZ)) S'))(hk:C.jF f id=none:=by exact rfl):ug C f call id ⟨l⟩ bv S Q:=by obtain⟨x,h1,h4,bJ,h0,bZ,h2,h3⟩:=Ah h;simp only[Hd]at h4;exact⟨_,by simp[oA,h1,h4,hk,fD,l6,h0,h2],h3⟩
theorem rg(h:nR C f call ⟨l⟩ l S λ_ S'=>Q (.normal,S'))(hk:C.jF f id=none:=by exact rfl)(hz:C.kz f id=[]:=by exact rfl)(ho:C.jy f id=[]:=by exact rfl)(ha:C.l9 f id=[]:=by exact rfl)(hn:C.mP f id=false:=by exact rfl):W C f call (.region id ⟨l⟩ ci) S Q:=w0 (QD h hk hz ho) ha hn
theorem UN(h:nR C f call ⟨l⟩ l S (xS C f id λS'=>Q (.normal,S')))(hk:C.jF f id=none:=by exact rfl)(hz:C.kz f id=[]:=by exact rfl)(ho:C.jy f id=[]:=by exact rfl)(ha:C.l9 f id=[]:=by exact rfl)(hn:C.mP f id=false:=by exact rfl):W C f call (.region id ⟨l⟩ bv) S Q:=w0 (QE h hk hz ho) ha hn
theorem ag(h:nR C f call ⟨l⟩ l S λ_ S'=>W C f call b S' Q)(hk:C.jF f id=none:=by exact rfl)(hz:C.kz f id=[]:=by exact rfl)(ho:C.jy f id=[]:=by exact rfl)(ha:C.l9 f id=[]:=by exact rfl)(hk2:jQ C f b=none:=by exact rfl)(hn:C.mP f id=false:=by exact rfl):W C f call (.seq (.region id ⟨l⟩ ci) b) S Q:=fX (QD h hk hz ho) ha hk2 hn
theorem og(h:nR C f call ⟨l⟩ l S (xS C f id λS'=>W C f call b S' Q))(hk:C.jF f id=none:=by exact rfl)(hz:C.kz f id=[]:=by exact rfl)(ho:C.jy f id=[]:=by exact rfl)(ha:C.l9 f id=[]:=by exact rfl)(hk2:jQ C f b=none:=by exact rfl)(hn:C.mP f id=false:=by exact rfl):W C f call (.seq (.region id ⟨l⟩ bv) b) S Q:=fX (QE h hk hz ho) ha hk2 hn
theorem eC(h:nR C f call ⟨l⟩ l S λ_ S'=>mz (1000+id) (C.jy f id) (C.kz f id) (λbZ=>Q (.normal,bZ)) S')(hk:C.jF f id=none:=by exact rfl)(ha:C.l9 f id=[]:=by exact rfl)(hn:C.mP f id=false:=by exact rfl):W C f call (.region id ⟨l⟩ ci) S Q:=w0 (Dm h hk) ha hn
theorem UO(h:nR C f call ⟨l⟩ l S (xS C f id λS'=>mz (1000+id) (C.jy f id) (C.kz f id) (λbZ=>Q (.normal,bZ)) S'))(hk:C.jF f id=none:=by exact rfl)(ha:C.l9 f id=[]:=by exact rfl)(hn:C.mP f id=false:=by exact rfl):W C f call (.region id ⟨l⟩ bv) S Q:=w0 (AG h hk) ha hn
theorem bC(h:nR C f call ⟨l⟩ l S λ_ S'=>mz (1000+id) (C.jy f id) (C.kz f id) (λbZ=>W C f call b bZ Q) S')(hk:C.jF f id=none:=by exact rfl)(ha:C.l9 f id=[]:=by exact rfl)(hk2:jQ C f b=none:=by exact rfl)(hn:C.mP f id=false:=by exact rfl):W C f call (.seq (.region id ⟨l⟩ ci) b) S Q:=fX (Dm h hk) ha hk2 hn
theorem IN(h:nR C f call ⟨l⟩ l S (xS C f id λS'=>mz (1000+id) (C.jy f id) (C.kz f id) (λbZ=>W C f call b bZ Q) S'))(hk:C.jF f id=none:=by exact rfl)(ha:C.l9 f id=[]:=by exact rfl)(hk2:jQ C f b=none:=by exact rfl)(hn:C.mP f id=false:=by exact rfl):W C f call (.seq (.region id ⟨l⟩ bv) b) S Q:=fX (AG h hk) ha hk2 hn
theorem oa{p:Nat}{K:ai->Prop}{lo tc:List Nat}(k:xP tc K S)(hl:lo=[]:=by exact rfl):mz p lo tc K S:=by subst hl;exact⟨_,rfl,k⟩
theorem tn{p:Nat}{K:ai->Prop}{S':ai}{lo tc:List Nat}(s:Nat)(sl:List Nat)(he:qu p S s=ac S')(k:mz p sl tc K S')(hl:lo=s::sl:=by exact rfl):mz p lo tc K S:=by subst hl;obtain⟨bZ,h1,h2⟩:=k;exact⟨bZ,by simp only[nD,he,AC];exact h1,h2⟩
theorem aiL{p s row off:Nat}{id:Id}{r r':List U}{x:Id×Option Rows}{wr:List (Id×Option Rows)}(hs:t s= .mp id row off)(hid:h id=ac (ac [r]))(hu:b5 [p,s] 0 r=(r',x::wr))(L1:A0 s n=bv)(hf:fresh h (x::wr)=bv):qu p ⟨n,t,h⟩ s=ac ⟨n,t,bD h ((id,ac [r'])::x::wr)⟩:=by have hs':s<n:=of_decide_eq_true (by simp[A0]at L1|-;omega);simp only[qu,hs,hid,hu,PH,Do,if_false];rw[if_pos ⟨hs',hf⟩]
theorem jW{K:ai->Prop}{l:List Nat}(k:K S)(hl:l=[]:=by exact rfl):xP l K S:=by subst hl;exact⟨_,rfl,k⟩
theorem yw{K:ai->Prop}{S':ai}{l:List Nat}(s:Nat)(sl:List Nat)(he:oE S s=ac S')(k:xP sl K S')(hl:l=s::sl:=by exact rfl):xP l K S:=by subst hl;obtain⟨bZ,h1,h2⟩:=k;exact⟨bZ,by simp only[kr,he,AC];exact h1,h2⟩
theorem nl(h:K ks S):eG C f call ops m i [] ks S K Z:=⟨_,rfl,by simpa using h⟩
def B6(ks:List eD):Bool:=ks.all λk=>k.2.2.isEmpty
theorem ID(a b:List eD):B6 (a++b)=(B6 a&&B6 b):=by simp[B6]
theorem iJ{P:ai->Prop}(h:P S)(hf:nv (C.fT f id) ks=true:=by first|exact rfl|exact DX _ _ rfl|(apply DX;simp[ID, *];done)|(apply DX;simp only[ID,Bool.and_eq_true];(repeat' constructor)<;>first|assumption|rfl)):eG C f call ops m i [] ks S (xS C f id P) Z:=⟨_,rfl,by simpa using hf,h⟩
def Gf(σ:Type)(C:aH)(f:FuncId)(id:Nat)(draw:Bool)(rep:σ->ai)(x:σ)(ks:List eD)(S:ai):Prop:=(draw=bv->nv (C.fT f id) ks=bv)∧mz (1000+id) (C.jy f id) (C.kz f id) (λbZ=>fD (C.jF f id) bZ=ac (rep x)) S
theorem abF{σ:Type}{draw:Bool}{A:Option σ}{vD:σ->Option ρ}(rep:σ->ai)(hF:A.bind vD=ac r)(k1:∀x,A=ac x->nR C f call ⟨l⟩ l S (Gf σ C f id draw rep x))(k2:∀x,vD x=ac r->Q (.normal,rep x)):ug C f call id ⟨l⟩ draw S Q:=by obtain⟨x,h1,h2⟩:=GG hF;obtain⟨y,h3,h4,bJ,h5,bZ,h6,h7⟩:=Ah (k1 x h1);simp only[Hd]at h4;refine⟨rep x, ?_,k2 x h2⟩;simp only[oA,h3,AC];cases draw with|false=>(simp[l6,h5,h6,h7])|true=>simp[h4 rfl,l6,h5,h6,h7]
theorem fY{σ:Type}{draw:Bool}{A:Option σ}{vD:σ->Option ρ}(rep:σ->ai)(hF:A.bind vD=ac r)(k1:∀x,A=ac x->nR C f call ⟨l⟩ l S (Gf σ C f id draw rep x))(k2:∀x,vD x=ac r->W C f call b (rep x) Q)(ha:C.l9 f id=[]:=by exact rfl)(hk2:jQ C f b=none:=by exact rfl)(hn:C.mP f id=false:=by exact rfl):W C f call (.seq (.region id ⟨l⟩ draw) b) S Q:=fX (abF rep hF k1 k2) ha hk2 hn
theorem rR{σ:Type}{rep:σ->ai}{x:σ}(h:mz (1000+id) (C.jy f id) (C.kz f id) (λbZ=>fD (C.jF f id) bZ=ac (rep x)) S):eG C f call ops m i [] ks S (Gf σ C f id ci rep x) Z:=⟨_,rfl,And.intro (λe=>PP e) h⟩
theorem cE{σ:Type}{rep:σ->ai}{x:σ}(hc:fD (C.jF f id) S=ac (rep x))(hz:C.kz f id=[]:=by exact rfl)(ho:C.jy f id=[]:=by exact rfl):eG C f call ops m i [] ks S (Gf σ C f id ci rep x) Z:=rR (by rw[hz,ho];exact⟨_,rfl,_,rfl,hc⟩)
variable{d:Nat}{ty:TypeId}{pos:String}{bl:Array Edge}{bS:Option (Nat×Bool)}{op:Op}{v:U}{g:Bool}
theorem ae1(i:Nat)(e:bg)(l:List eD):hkey i e l=hkey i e []++l:=by unfold hkey;split<;>simp
theorem zQ{o:Oper}{e:bg}(hy:lR m o=bv)(he:sG C f call S ops o=ac e)(hs:(e.dY.all λx=>decide (x.1<S.n))=bv)(k:eG C f call ops (r6 m i) (i+1) l (ks++hkey i e []) (S.app e) K Z):eG C f call ops m i (o::l) ks S K Z:=by obtain⟨x,h1,h2⟩:=k;refine⟨(x.1,hkey i e x.2), ?_, ?_⟩;·{simp only[js,hy,he,if_true];rw[if_pos hs,h1];rfl};·rw[ae1];simpa using h2
theorem qV{d n:Nat}(h:A0 d n=bv):decide (d<n)=true:=by simp[A0]at h|-;omega
theorem pp(he:bU C f call ⟨n,t,h⟩ bv ⟨ac d,op,ty,pos,bl,am⟩=ac ⟨[(d,v)],[],[]⟩)(k:eG C f call ops (r6 m i) (i+1) l ks ⟨n,av t d v,h⟩ K Z)(hs:A0 d n=true:=by exact rfl)(hy:lR m ⟨ac d,op,ty,pos,bl,am⟩=true:=by exact rfl):eG C f call ops m i (⟨ac d,op,ty,pos,bl,am⟩::l) ks ⟨n,t,h⟩ K Z:=zQ (e:=⟨[(d,v)],[],[]⟩) hy he (by simpa using qV hs) (by simpa[hkey,ai.app]using k)
theorem rr{y:Id}{rd:List Id}(he:bU C f call ⟨n,t,h⟩ bv ⟨ac d,op,ty,pos,bl,am⟩=ac ⟨[(d,v)],y::rd,[]⟩)(k:eG C f call ops (r6 m i) (i+1) l (ks++[(i,y::rd,[])]) ⟨n,av t d v,h⟩ K Z)(hs:A0 d n=true:=by exact rfl)(hy:lR m ⟨ac d,op,ty,pos,bl,am⟩=true:=by exact rfl):eG C f call ops m i (⟨ac d,op,ty,pos,bl,am⟩::l) ks ⟨n,t,h⟩ K Z:=zQ (e:=⟨[(d,v)],y::rd,[]⟩) hy he (by simpa using qV hs) (by simpa[hkey,ai.app]using k)
theorem ww{tj:Option Nat}{dY:List (Nat×U)}{rd:List Id}{x:Id×Option Rows}{wr:List (Id×Option Rows)}(he:bU C f call ⟨n,t,h⟩ bv ⟨tj,op,ty,pos,bl,am⟩=ac ⟨dY,rd,x::wr⟩)(k:eG C f call ops (r6 m i) (i+1) l (ks++[(i,rd,(x::wr).map (·.1))]) ⟨n,dM t dY,bD h (x::wr)⟩ K Z)(hs:(dY.all λx=>A0 x.1 n)=true:=by exact rfl)(hy:lR m ⟨tj,op,ty,pos,bl,am⟩=true:=by exact rfl):eG C f call ops m i (⟨tj,op,ty,pos,bl,am⟩::l) ks ⟨n,t,h⟩ K Z:=zQ (e:=⟨dY,rd,x::wr⟩) hy he (by rw[Hk]at hs|-;exact λy hy=>qV (hs y hy)) (by simpa[hkey,ai.app]using k)
theorem aD{j:Nat}{wt:Bool}{l0:List Oper}(hg:uD wt ⟨n,t,h⟩ (qb l0 j)=ac g)(he:bU C f call ⟨n,t,h⟩ g ⟨ac d,op,ty,pos,bl,ac (j,wt)⟩=ac ⟨[(d,v)],[],[]⟩)(k:eG C f call ⟨l0⟩ (r6 m i) (i+1) l ks ⟨n,av t d (.dO g v),h⟩ K Z)(hs:A0 d n=true:=by exact rfl)(hy:lR m ⟨ac d,op,ty,pos,bl,ac (j,wt)⟩=true:=by exact rfl):eG C f call ⟨l0⟩ m i (⟨ac d,op,ty,pos,bl,ac (j,wt)⟩::l) ks ⟨n,t,h⟩ K Z:=zQ (e:=⟨[(d, .dO g v)],[],[]⟩) hy (by rw[GZ,hg,GN,G1,he];rfl) (by simpa using qV hs) (by simpa[hkey,ai.app]using k)
theorem akc{j:Nat}{wt:Bool}{l0:List Oper}{y:Id}{rd:List Id}(hg:uD wt ⟨n,t,h⟩ (qb l0 j)=ac g)(he:bU C f call ⟨n,t,h⟩ g ⟨ac d,op,ty,pos,bl,ac (j,wt)⟩=ac ⟨[(d,v)],y::rd,[]⟩)(k:eG C f call ⟨l0⟩ (r6 m i) (i+1) l (ks++[(i,y::rd,[])]) ⟨n,av t d (.dO g v),h⟩ K Z)(hs:A0 d n=true:=by exact rfl)(hy:lR m ⟨ac d,op,ty,pos,bl,ac (j,wt)⟩=true:=by exact rfl):eG C f call ⟨l0⟩ m i (⟨ac d,op,ty,pos,bl,ac (j,wt)⟩::l) ks ⟨n,t,h⟩ K Z:=zQ (e:=⟨[(d, .dO g v)],y::rd,[]⟩) hy (by rw[GZ,hg,GN,G1,he];rfl) (by simpa using qV hs) (by simpa[hkey,ai.app]using k)
theorem pt{j:Nat}{wt:Bool}{l0:List Oper}(hg:uD wt ⟨n,t,h⟩ (qb l0 j)=ac bv)(he:bU C f call ⟨n,t,h⟩ bv ⟨ac d,op,ty,pos,bl,ac (j,wt)⟩=ac ⟨[(d,v)],[],[]⟩)(k:eG C f call ⟨l0⟩ (r6 m i) (i+1) l ks ⟨n,av t d (.dO bv v),h⟩ K Z)(hs:A0 d n=true:=by exact rfl)(hy:lR m ⟨ac d,op,ty,pos,bl,ac (j,wt)⟩=true:=by exact rfl):eG C f call ⟨l0⟩ m i (⟨ac d,op,ty,pos,bl,ac (j,wt)⟩::l) ks ⟨n,t,h⟩ K Z:=aD hg he k hs hy
theorem II{j:Nat}{wt:Bool}{l0:List Oper}{y:Id}{rd:List Id}(hg:uD wt ⟨n,t,h⟩ (qb l0 j)=ac bv)(he:bU C f call ⟨n,t,h⟩ bv ⟨ac d,op,ty,pos,bl,ac (j,wt)⟩=ac ⟨[(d,v)],y::rd,[]⟩)(k:eG C f call ⟨l0⟩ (r6 m i) (i+1) l (ks++[(i,y::rd,[])]) ⟨n,av t d (.dO bv v),h⟩ K Z)(hs:A0 d n=true:=by exact rfl)(hy:lR m ⟨ac d,op,ty,pos,bl,ac (j,wt)⟩=true:=by exact rfl):eG C f call ⟨l0⟩ m i (⟨ac d,op,ty,pos,bl,ac (j,wt)⟩::l) ks ⟨n,t,h⟩ K Z:=akc hg he k hs hy
theorem F1{j:Nat}{wt:Bool}{l0:List Oper}{dY:List (Nat×U)}{rd:List Id}{x:Id×Option Rows}{wr:List (Id×Option Rows)}{tj:Option Nat}(hg:uD wt ⟨n,t,h⟩ (qb l0 j)=ac bv)(he:bU C f call ⟨n,t,h⟩ bv ⟨tj,op,ty,pos,bl,ac (j,wt)⟩=ac ⟨dY,rd,x::wr⟩)(k:eG C f call ⟨l0⟩ (r6 m i) (i+1) l (ks++[(i,rd,(x::wr).map (·.1))]) ⟨n,dM t dY,bD h (x::wr)⟩ K Z)(hs:(dY.all λx=>A0 x.1 n)=true:=by exact rfl)(hy:lR m ⟨tj,op,ty,pos,bl,ac (j,wt)⟩=true:=by exact rfl):eG C f call ⟨l0⟩ m i (⟨tj,op,ty,pos,bl,ac (j,wt)⟩::l) ks ⟨n,t,h⟩ K Z:=zQ (e:=⟨dY,rd,x::wr⟩) hy (by rw[GZ,hg,GN,G1,he];rfl) (by rw[Hk]at hs|-;exact λy hy=>qV (hs y hy)) (by simpa[hkey,ai.app]using k)
theorem gf{wt:Bool}{d:Nat}{u:U}{tj:Option Nat}(hd:tj=ac d:=by exact rfl)(h:S.t d= .dO ci u:=by exact rfl):uD wt S tj=ac false:=by subst hd;rw[RP,h];cases u with|val v=>(cases v<;>simp[AY])|_=>rfl
theorem no{d:Nat}{j:Nat}{wt:Bool}{l0:List Oper}(k:∀u ks',B6 ks'=bv->eG C f call ⟨l0⟩ (r6 m i) (i+1) l (ks++ks') ⟨n,av t d (.dO ci u),h⟩ K Z)(hg:uD wt ⟨n,t,h⟩ (qb l0 j)=ac false:=by first|exact gf|exact rfl)(hs:A0 d n=true:=by exact rfl)(hy:lR m ⟨ac d,op,ty,pos,bl,ac (j,wt)⟩=true:=by exact rfl):eG C f call ⟨l0⟩ m i (⟨ac d,op,ty,pos,bl,ac (j,wt)⟩::l) ks ⟨n,t,h⟩ K Z:=by have hj:∀(v:U)(rd:List Id),sG C f call ⟨n,t,h⟩ ⟨l0⟩ ⟨ac d,op,ty,pos,bl,ac (j,wt)⟩=ac ⟨[(d, .dO ci v)],rd,[]⟩->eG C f call ⟨l0⟩ m i (⟨ac d,op,ty,pos,bl,ac (j,wt)⟩::l) ks ⟨n,t,h⟩ K Z:=λv rd he=>zQ hy he (by simpa using qV hs) (by have:=k v (hkey i ⟨[(d, .dO ci v)],rd,[]⟩ []) (by unfold hkey B6;split<;>simp);simpa[ai.app,dM]using this);rw[GZ,hg,GN,G1]at hj;cases he:bU C f call ⟨n,t,h⟩ ci ⟨ac d,op,ty,pos,bl,ac (j,wt)⟩with|none=>(exact hj .aS [] (by rw[he];rfl))|some e=>obtain⟨dY,rd,wr⟩:=e;cases wr with|cons x wr=>(exact hj .aS [] (by rw[he];rfl))|nil=>rcases NY he with⟨v,hv⟩|⟨hv,_⟩;·{simp only[put]at hv;subst hv;exact hj v rd (by rw[he];rfl)};·exact absurd rfl hv
theorem eU{A B:Option ρ}{d:Nat}{p:Bool}(hF:(if p=bv then A else B)=ac r)(h1:A=ac r->eG C f call ops m i l ks ⟨n,av t d (.val (.bool bv)),h⟩ K Z)(h2:B=ac r->eG C f call ops m i l ks ⟨n,av t d (.val (.bool ci)),h⟩ K Z)(hd:t d= .val (.bool p):=by exact rfl):eG C f call ops m i l ks ⟨n,t,h⟩ K Z:=by have e:∀q,t d= .val (.bool q)->av t d (.val (.bool q))=t:=λq hq=>by{funext j;unfold av;split;·{rename_i hj;subst hj;exact hq.symm};·rfl};cases p with|true=>(have:=h1 (by simpa using hF);rwa[e _ hd]at this)|false=>have:=h2 (by simpa using hF);rwa[e _ hd]at this
theorem qI{A B:Option ρ}{d:Nat}{p:Bool}(hF:(if p=bv then A else B)=ac r)(h1:A=ac r->eG C f call ops m i l ks ⟨n,av t d (.dO bv (.val (.bool bv))),h⟩ K Z)(h2:B=ac r->eG C f call ops m i l ks ⟨n,av t d (.dO bv (.val (.bool ci))),h⟩ K Z)(hd:t d= .dO bv (.val (.bool p)):=by exact rfl):eG C f call ops m i l ks ⟨n,t,h⟩ K Z:=by have e:∀q,t d= .dO bv (.val (.bool q))->av t d (.dO bv (.val (.bool q)))=t:=λq hq=>by{funext j;unfold av;split;·{rename_i hj;subst hj;exact hq.symm};·rfl};cases p with|true=>(have:=h1 (by simpa using hF);rwa[e _ hd]at this)|false=>have:=h2 (by simpa using hF);rwa[e _ hd]at this
theorem gi{o:Oper}(k:eG C f call ops m (i+1) l ks S K Z)(hy:lR m o=false:=by exact rfl):eG C f call ops m i (o::l) ks S K Z:=by obtain⟨x,h1,h2⟩:=k;exact⟨x,by simp only[js,hy,Do,if_false];exact h1,h2⟩
theorem UA{o:Oper}{v:Value}{e:bg}(he:sG C f call S ops o=am)(hp:oL C call S ops o=ac (v,e))(k:Z ks ⟨i,l,S,v,e⟩)(hm:m=none:=by exact rfl):eG C f call ops m i (o::l) ks S K Z:=by subst hm;exact⟨_,by simp only[js,lR,if_true,he,hp,Ha];rfl,by simpa using k⟩
def Jd(C:aH)(f:FuncId)(id:Nat)(p:oX)(ks:List eD)(Q:Exit×ai->Prop)(ks':List eD)(S:ai):Prop:=nv (C.fT f id) (ks++(ks'++[(p.i,p.e.rd,p.e.wr.map (·.1))]))=bv∧Q (fH p.v,wM (Bu (C.fT f id) p.i (ks++ks')) (S.app p.e))
def CR(C:aH)(f:FuncId)(call:gB)(id:Nat)(ops:Array Oper)(jf:Bool)(Q:Exit×ai->Prop)(ks:List eD)(p:oX):Prop:=if jf then eG C f call ops (ac (H1 p.i)) (p.i+1) p.l [] p.S (Jd C f id p ks Q) zg else Q (fH p.v,p.S.app p.e)
def Gg(C:aH)(f:FuncId)(id:Nat)(jf:Bool)(Q:Exit×ai->Prop)(ks:List eD)(S:ai):Prop:=(jf=bv->nv (C.fT f id) ks=bv)∧mz (1000+id) (C.jy f id) (C.kz f id) (λbZ=>∃iP,fD (C.jF f id) bZ=ac iP∧Q (.normal,iP)) S
def WP(C:aH)(f:FuncId)(call:gB)(id:Nat)(ops:Array Oper)(draw:Bool)(S:ai)(Q:Exit×ai->Prop):Prop:=∃x,sI C f call id ops draw S=ac x∧Q x
theorem amV{jf:Bool}(h:eG C f call ⟨l⟩ am 0 l [] S (Gg C f id jf Q) (CR C f call id ⟨l⟩ jf Q)):WP C f call id ⟨l⟩ jf S Q:=by obtain⟨⟨z,ks⟩,h1,h2⟩:=h;cases z with|inl S'=>(obtain⟨h2,bZ,h3,iP,h4,Yl,h5,h6⟩:=h2;simp only[Hd]at h2;refine⟨(.normal,Yl), ?_,h6⟩;unfold sI;simp only[h1];cases jf with|false=>(simp[l6,h3,h4,h5])|true=>simp[h2 rfl,l6,h3,h4,h5])|inr p=>simp only[Hd]at h2;unfold CR at h2;cases jf with|false=>(simp only[Do,if_false]at h2;exact⟨_,by unfold sI;simp only[h1];unfold Dy;simp only[Do,if_false],h2⟩)|true=>simp only[if_true]at h2;obtain⟨⟨z,ks'⟩,h3,h4⟩:=h2;cases z with|inr _=>(exact h4.elim)|inl S'=>simp only[Hd]at h4;exact⟨_,by unfold sI;simp only[h1];unfold Dy;simp only[if_true,h3,h4.1],h4.2⟩
theorem cv{jf:Bool}(h:eG C f call ⟨l⟩ am 0 l [] S (Gg C f id jf Q) (CR C f call id ⟨l⟩ jf Q))(hn:C.mP f id=true:=by exact rfl)(ha:C.l9 f id=[]:=by exact rfl):W C f call (.region id ⟨l⟩ jf) S Q:=by obtain⟨x,h1,h2⟩:=amV h;exact⟨x,by simp[cT,hn,ha,kr,h1],h2⟩
theorem cX(h:mz (1000+id) (C.jy f id) (C.kz f id) (λbZ=>Q (.normal,bZ)) S)(hk:C.jF f id=none:=by exact rfl):eG C f call ops m i [] ks S (Gg C f id ci Q) Z:=⟨_,rfl,(λe=>by cases e),by obtain⟨bJ,h1,bZ,h2,h3⟩:=h;exact⟨bJ,h1,bZ,h2,bZ,by rw[hk];rfl,h3⟩⟩
theorem rS(h:mz (1000+id) (C.jy f id) (C.kz f id) (λbZ=>Q (.normal,bZ)) S)(hk:C.jF f id=none:=by exact rfl)(hf:nv (C.fT f id) ks=true:=by first|exact rfl|exact DX _ _ rfl|(apply DX;simp[ID, *];done)|(apply DX;simp only[ID,Bool.and_eq_true];(repeat' constructor)<;>first|assumption|rfl)):eG C f call ops m i [] ks S (Gg C f id bv Q) Z:=⟨_,rfl,(λ_=>by simpa using hf),by obtain⟨bJ,h1,bZ,h2,h3⟩:=h;exact⟨bJ,h1,bZ,h2,bZ,by rw[hk];rfl,h3⟩⟩
theorem cR{v:Value}{rd:List Id}{wr:List (Id×Option Rows)}{wr':List (Id×Option Rows)}(k:Q (fH v,⟨n,t,bD h wr'⟩))(hw:wr=wr':=by exact rfl):CR C f call id ops ci Q ks ⟨i,l,⟨n,t,h⟩,v,⟨[],rd,wr⟩⟩:=by subst hw;exact k
theorem qk{v:Value}{rd:List Id}{wr:List (Id×Option Rows)}(k:eG C f call ops (ac (H1 i)) (i+1) l [] ⟨n,t,h⟩ (Jd C f id ⟨i,l,⟨n,t,h⟩,v,⟨[],rd,wr⟩⟩ ks Q) zg):CR C f call id ops bv Q ks ⟨i,l,⟨n,t,h⟩,v,⟨[],rd,wr⟩⟩:=k
theorem qs{p:oX}{ks':List eD}{K':List Id}{wr:List (Id×Option Rows)}{wr':List (Id×Option Rows)}(k:Q (fH p.v,⟨n,λ_=> .aS,bD h wr'⟩))(hf:nv (C.fT f id) (ks++(ks'++[(p.i,p.e.rd,p.e.wr.map (·.1))]))=true:=by exact rfl)(hK:Bu (C.fT f id) p.i (ks++ks')=K':=by exact rfl)(hp:p.e.wr=wr:=by exact rfl)(hw:(K'.map λi=>(i,am))++wr=wr':=by exact rfl):eG C f call ops m i [] ks' ⟨n,t,h⟩ (Jd C f id p ks Q) zg:=by subst hK hp hw;refine⟨(.inl _,[]),rfl, ?_, ?_⟩;·{simpa using hf};·have e:wM (Bu (C.fT f id) p.i (ks++ks')) (ai.app ⟨n,t,h⟩ p.e)=⟨n,λ_=> .aS,bD h ((Bu (C.fT f id) p.i (ks++ks')).map (λi=>(i,am))++p.e.wr)⟩:=by{simp only[wM,ai.app,ai.mk.injEq,true_and];rw[vA]};simp only[PQ];rw[e];exact k
end
/-! Ways of a panic. -/
theorem cH{v:Value}(h:Q (fH v,S)):CZ C f call b Q (fH v,S):=h
theorem dB{v:Value}(h:Q (fH v,S)):pZ C f k Q (fH v,S):=h
theorem fI{σ:Type}{o:Option (Bool×List Nat)}{rep:σ->ai}{oq:σ->Option ρ}{v:Value}(h:Q (fH v,S)):CY σ o rep oq r Q (fH v,S):=h
end
open Go
theorem iY{α β:Type}(P:Program)(s:Sem α)(k:α->Sem β):dA P (s>>=k)=(dA P s).bind λa=>dA P (k a):=by show dA P (s.bind k)=_;induction s with|pure a=>(rfl)|program k2 ih=>(simpa[Sem.bind,dA]using ih P)|_=>simp[Sem.bind,dA]
section
variable{P:Program}
theorem pN{α:Type}(a:α):dA P (pure a:Sem α)=ac a:=rfl
theorem Np:dA P program=ac P:=rfl
theorem pO{t:TypeId}{d:TypeDesc}(h:P.underlying t=ac d):dA P (underlying t)=ac d:=by unfold underlying;rw[iY,Np,AC,h];rfl
def MU:TypeDesc->Bool| .struct _=>ci| .array _ _=>ci|_=>bv
theorem ajG{t:TypeId}{d:TypeDesc}(h:P.underlying t=ac d)(hd:MU d=bv):dA P (isAgg t)=ac false:=by unfold isAgg;rw[iY,pO h,AC];cases d<;>first|rfl|cases hd
theorem Um{t:TypeId}{d:TypeDesc}{cs:Array Value}{off:Nat}{v:Value}(h:P.underlying t=ac d)(hd:MU d=bv)(hv:cs[off]? =ac v):dA P (part t cs off)=ac v:=by unfold part;rw[iY,ajG h hd,AC,hv];rfl
theorem ajE(d:Nat)(t:TypeId)(xs ys:Array Value)(ht:P.underlying t=ac (.struct (P.fieldsOf t)))(hp:P.stoodInHeld t=ci):dA P (Op.equalIn (d+1) t (.agg xs) (.agg ys))=dA P (Op.eqFields d xs ys (P.fieldsOf t).toList):=by simp only[Op.equalIn,iY,pO ht,AC,Np,hp,Do,if_false];rw[<-Array.forIn_toList];generalize(P.fieldsOf t).toList=fs;clear ht;induction fs with|nil=>(rfl)|cons f fs ih=>simp only[List.forIn_cons,Op.eqFields,iY];split;·{simp only[iY];cases dA P (part f.type xs f.offset)with|none=>(rfl)|some a=>simp only[AC];cases dA P (part f.type ys f.offset)with|none=>(rfl)|some b=>simp only[AC];cases dA P (Op.equalIn d f.type a b)with|none=>(rfl)|some r=>cases r;·{rfl};·simp only[AC,Bool.not_true,Do,if_false,pN];exact ih};·simp only[pN,AC];exact ih
def IJ:Value->Value->Option Bool| .int k a, .int k' b=>if k=k' then ac (a==b)else am| .bool a, .bool b=>ac (a==b)| .string a, .string b=>ac (a.toList==b.toList)|_,_=>am
def fits:TypeDesc->Value->Bool| .int _, .int _ _=>bv| .bool, .bool _=>bv| .string, .string _=>bv|_,_=>ci
theorem ajD{d:Nat}{t:TypeId}{D:TypeDesc}{x y:Value}{b:Bool}(h:P.underlying t=ac D)(hf:fits D x=bv)(he:IJ x y=ac b):dA P (Op.equalIn (d+1) t x y)=ac b:=by
 cases x<;>cases D<;>simp only[fits,Do]at hf<;>cases y<;>simp only[IJ]at he<;>try cases he
 ·simp[Op.equalIn,iY,pO h,pN]
 ·split at he
  ·rename_i hk;subst hk
   simp only[Kd]at he;subst he
   simp[Op.equalIn,iY,pO h,pN]
  ·cases he
 ·simp[Op.equalIn,iY,pO h,pN,beq_toListBytes]
def AN(P:Program)(xs ys:Array Value):List Field->Option Bool|[]=>ac bv|f::fs=>if f.name≠ "_" then match P.underlying f.type,xs[f.offset]?,ys[f.offset]? with|some D,ac x,ac y=>if fits D x then(IJ x y).bind λb=>(AN P xs ys fs).map (b&&·)else am|_,_,_=>am else am
theorem Ul{d:Nat}{xs ys:Array Value}:∀{fs:List Field}{b:Bool},AN P xs ys fs=ac b->dA P (Op.eqFields (d+1) xs ys fs)=ac b|[],b,h=>by{simp[AN]at h;subst h;rfl}|f::fs,b,h=>by unfold AN at h;split at h;·{rename_i hn;split at h;·{rename_i D x y hD hx hy;split at h;·{rename_i hf;simp only[Hc,Pi]at h;obtain⟨b1,h1,b2,h2,rfl⟩:=h;have hd:MU D=true:=by{cases D<;>cases x<;>simp[fits]at hf<;>rfl};simp only[Op.eqFields];rw[if_pos hn];simp only[iY,Um hD hd hx,Um hD hd hy,AC,ajD hD hf h1];cases b1;·{rfl};·simpa using Ul h2};·cases h};·cases h};·cases h
theorem aac{t:TypeId}{x y:Operand}{xs ys:Array Value}{fs:Array Field}{b:Bool}(hf:P.underlying t=ac (.struct fs))(hp:P.stoodInHeld t=ci)(hm:P.eqGuardType P.depth t=ci)(he:AN P xs ys fs.toList=ac b):fC P .neq t x y (.agg xs) (.agg ys)=ac (.bool (!b)):=by have e:P.fieldsOf t=fs:=by{unfold Program.fieldsOf;rw[hf]};unfold fC;have e1:dA P (eqGuard .neq t x y (.agg xs) (.agg ys))=ac ():=by{simp[eqGuard,iY,Np,hm,pN]};rw[iY,e1,AC];simp only[binOp,Op.equal,Op.maxDepth];rw[iY,ajE 9999 t xs ys (by rw[e];exact hf) hp,e,Ul he];rfl
end
open Go
inductive cB where|nil|code(n:Int)|other deriving DecidableEq,Inhabited
def iw(t:TypeId):cB->U| .nil=> .val .nilIface| .code n=> .val (.iface t (.int .i64 n))| .other=> .nn
/-! ### Facts about the program's types, found by their numbers -/
class eM(C:aH)(t:TypeId)(d:outParam TypeDesc):Prop where ul:C.P.underlying t=ac d
class ek(C:aH)(t:TypeId)(b:outParam Bool)(n:outParam Nat):Prop where
 lZ:kW C t=ac b
 sz:iL C t=ac n
class Fd(C:aH)(t i:Nat)(off n:outParam Nat)(b:outParam Bool):Prop where fd:DB C t i=ac (off,n,b)
class lz(C:aH)(t:TypeId)(cs:outParam (List U)):Prop where gR:z8 C t=ac cs
class uk(C:aH)(t:TypeId)(cs:outParam (List U)):Prop where V1:Aa C t=ac cs
class Pl(C:aH)(t:TypeId)(pl:outParam (List (Nat×Nat×Bool))):Prop where pl:No C t=ac pl
def Db(C:aH)(e:TypeId)(m:Nat):Bool:=match C.P.info? e with|some i=>i.size==m&&decide (0<m)&&decide (i.bytes<=4096)&&F3 i|none=>ci
class tT(C:aH)(e:TypeId)(m:outParam Nat):Prop where ao:Db C e m=bv
class oT{α:Type}(c:α->List U):Prop where fl:∀x,dw (c x)=bv
class tW{α:Type}(c:α->List U):Prop where
 im:∀x,fE (c x)=bv
 ce:∀x,(c x).all U.cell=bv
class Gb{α:Type}(c:α->List U)(c':outParam (α->List U)):Prop where ff:∀x,ku (c x)=c' x
class am9{α:Type}(c:α->List U):Prop where mi:∀x,nA (c x)=bv
section
variable{g g' h k:Bool}{x:U}
theorem IZ{t:TypeId}{e:cB}:un g (iw t e)=iw t e:=by cases e<;>cases g<;>rfl
theorem amB{p:Bool}:un (bv&&p) (.dO (p==bv) x)=x:=by cases p<;>rfl
theorem amC{p:Bool}:un (bv&& !p) (.dO (p==ci) x)=x:=by cases p<;>rfl
theorem amD{p:Bool}:un (g&&p) (.dO (g&&(p==bv)) x)=x:=by cases p<;>cases g<;>rfl
end
theorem cP{a b:U}(h:a=b:=by first|exact VF _|exact IZ|exact amA|exact arU|exact amB|exact amC|exact amD|exact arQ|exact arI|exact arJ|exact arM|exact arK|exact arL):a=b:=h
theorem gt{a b:U}(h:a=b:=by first|exact(rfl:_=U.val _)|exact(rfl:_=U.sl _)|exact(rfl:_=U.rs _ _ _)|exact(rfl:_=U.mp _ _ _)|exact(rfl:_=U.bL _)|exact(rfl:_=U.agg _)|exact(rfl:_=U.cg)|exact(rfl:_=U.aC _)|exact(rfl:_=U.fn _ _ _)|exact IZ|exact amA|exact(rfl:_=U.nn)|exact(rfl:_=U.mr _)|exact(rfl:_=U.im _)|exact(rfl:_=U.fo _)|exact cP):a=b:=h
theorem aly{α:Type}{a:α}{l t t':List α}(h:l=a::t)(k:t=t'):l=a::t':=by rw[h,k]
theorem alz{α:Type}{l:List α}(h:l=[]:=by exact rfl):l=[]:=h
theorem spine{α:Type}{a b:List α}(h:a=b:=by repeat(first|exact alz|apply aly rfl)):a=b:=h
theorem SD{α:Type}{o:Option α}(h:o=am):o.isNone=true:=by rw[h];rfl
section
variable{C:aH}{f:FuncId}{call:gB}{S:ai}{g:Bool}
variable{d:Nat}{ty:TypeId}{pos:String}{bl:Array Edge}{bS:Option (Nat×Bool)}{v v':U}
variable{x y z:Operand}{k:IntKind}{a b:Int}{T dW:TypeId}
theorem aa(h:un g (S.get C x)=v:=by exact gt):bU C f call S g ⟨ac d, .move x,ty,pos,bl,bS⟩=ac ⟨[(d,v)],[],[]⟩:=by subst h;rfl
theorem af(h:un g (S.get C x)=v:=by exact gt):bU C f call S g ⟨ac d, .assign x,ty,pos,bl,bS⟩=ac ⟨[(d,v)],[],[]⟩:=by subst h;rfl
theorem pK{op:BinOp}{P7 P8:U}{fu jC oo:Value}(hx:un g (S.get C x)=P7)(hy:un g (S.get C y)=P8)(h1:mV P7=ac fu)(h2:mV P8=ac jC)(hb:fC C.P op T x y fu jC=ac oo)(hs:gX oo=bv):bU C f call S g ⟨ac d, .binOp op T x y dW,ty,pos,bl,bS⟩=ac ⟨[(d, .val oo)],[],[]⟩:=by show uw C _ op T x y (un g (S.get C x)) (un g (S.get C y))=_;rw[hx,hy];simp[uw,h1,h2,hb,hs]
theorem rV{op:BinOp}{oo:Value}(hb:fC C.P op T x y (.int k a) (.int k b)=ac oo)(hs:gX oo=bv)(hx:un g (S.get C x)= .val (.int k a))(hy:un g (S.get C y)= .val (.int k b)):bU C f call S g ⟨ac d, .binOp op T x y dW,ty,pos,bl,bS⟩=ac ⟨[(d, .val oo)],[],[]⟩:=pK hx hy rfl rfl hb hs
theorem fm(hx:un g (S.get C x)= .val (.int k a):=by first|exact rfl|exact cP)(hy:un g (S.get C y)= .val (.int k b):=by first|exact rfl|exact cP):bU C f call S g ⟨ac d, .binOp .add T x y dW,ty,pos,bl,bS⟩=ac ⟨[(d, .val (.int k (k.wrap (a+b))))],[],[]⟩:=rV Z2 rfl hx hy
theorem jM(hx:un g (S.get C x)= .val (.int k a):=by first|exact rfl|exact cP)(hy:un g (S.get C y)= .val (.int k b):=by first|exact rfl|exact cP):bU C f call S g ⟨ac d, .binOp .sub T x y dW,ty,pos,bl,bS⟩=ac ⟨[(d, .val (.int k (k.wrap (a-b))))],[],[]⟩:=rV aae rfl hx hy
theorem ahP(hx:un g (S.get C x)= .val (.int k a):=by first|exact rfl|exact cP)(hy:un g (S.get C y)= .val (.int k b):=by first|exact rfl|exact cP):bU C f call S g ⟨ac d, .binOp .mul T x y dW,ty,pos,bl,bS⟩=ac ⟨[(d, .val (.int k (k.wrap (a*b))))],[],[]⟩:=rV Z9 rfl hx hy
theorem aP(hx:un g (S.get C x)= .val (.int k a):=by first|exact rfl|exact cP)(hy:un g (S.get C y)= .val (.int k b):=by first|exact rfl|exact cP):bU C f call S g ⟨ac d, .binOp .eql T x y dW,ty,pos,bl,bS⟩=ac ⟨[(d, .val (.bool (a==b)))],[],[]⟩:=rV Z3 rfl hx hy
theorem jl(hx:un g (S.get C x)= .val (.int k a):=by first|exact rfl|exact cP)(hy:un g (S.get C y)= .val (.int k b):=by first|exact rfl|exact cP):bU C f call S g ⟨ac d, .binOp .neq T x y dW,ty,pos,bl,bS⟩=ac ⟨[(d, .val (.bool (a !=b)))],[],[]⟩:=rV aaa rfl hx hy
theorem fW(hx:un g (S.get C x)= .val (.int k a):=by first|exact rfl|exact cP)(hy:un g (S.get C y)= .val (.int k b):=by first|exact rfl|exact cP):bU C f call S g ⟨ac d, .binOp .lss T x y dW,ty,pos,bl,bS⟩=ac ⟨[(d, .val (.bool (decide (a<b))))],[],[]⟩:=rV Z8 rfl hx hy
theorem gN(hx:un g (S.get C x)= .val (.int k a):=by first|exact rfl|exact cP)(hy:un g (S.get C y)= .val (.int k b):=by first|exact rfl|exact cP):bU C f call S g ⟨ac d, .binOp .leq T x y dW,ty,pos,bl,bS⟩=ac ⟨[(d, .val (.bool (decide (a<=b))))],[],[]⟩:=rV Z7 rfl hx hy
theorem gE(hx:un g (S.get C x)= .val (.int k a):=by first|exact rfl|exact cP)(hy:un g (S.get C y)= .val (.int k b):=by first|exact rfl|exact cP):bU C f call S g ⟨ac d, .binOp .gtr T x y dW,ty,pos,bl,bS⟩=ac ⟨[(d, .val (.bool (decide (b<a))))],[],[]⟩:=rV Z6 rfl hx hy
theorem gZ(hx:un g (S.get C x)= .val (.int k a):=by first|exact rfl|exact cP)(hy:un g (S.get C y)= .val (.int k b):=by first|exact rfl|exact cP):bU C f call S g ⟨ac d, .binOp .geq T x y dW,ty,pos,bl,bS⟩=ac ⟨[(d, .val (.bool (decide (b<=a))))],[],[]⟩:=rV Z5 rfl hx hy
theorem Z4{P:Program}{a b:ByteArray}:fC P .eql T x y (.string a) (.string b)=ac (.bool (a.toList==b.toList)):=by simp[fC,eqGuard,binOp,Op.stringOp,dA,bind,Sem.bind,pure]
theorem aab{P:Program}{a b:ByteArray}:fC P .neq T x y (.string a) (.string b)=ac (.bool (a.toList !=b.toList)):=by simp[fC,eqGuard,binOp,Op.stringOp,dA,bind,Sem.bind,pure,bne]
theorem gm{a b:ByteArray}(hx:un g (S.get C x)= .val (.string a):=by first|exact rfl|exact cP)(hy:un g (S.get C y)= .val (.string b):=by first|exact rfl|exact cP):bU C f call S g ⟨ac d, .binOp .eql T x y dW,ty,pos,bl,bS⟩=ac ⟨[(d, .val (.bool (a.toList==b.toList)))],[],[]⟩:=pK hx hy rfl rfl Z4 rfl
theorem M3{a b:ByteArray}(hx:un g (S.get C x)= .val (.string a):=by first|exact rfl|exact cP)(hy:un g (S.get C y)= .val (.string b):=by first|exact rfl|exact cP):bU C f call S g ⟨ac d, .binOp .neq T x y dW,ty,pos,bl,bS⟩=ac ⟨[(d, .val (.bool (a.toList !=b.toList)))],[],[]⟩:=pK hx hy rfl rfl aab rfl
theorem BO{op:BinOp}{xs ys:List U}{vx vy:List Value}{q:Bool}(hb:fC C.P op T x y (.agg ⟨vx⟩) (.agg ⟨vy⟩)=ac (.bool q))(hx:un g (S.get C x)= .agg xs:=by first|exact rfl|exact cP)(hy:un g (S.get C y)= .agg ys:=by first|exact rfl|exact cP)(h1:jB xs=ac vx:=by exact rfl)(h2:jB ys=ac vy:=by exact rfl):bU C f call S g ⟨ac d, .binOp op T x y dW,ty,pos,bl,bS⟩=ac ⟨[(d, .val (.bool q))],[],[]⟩:=pK hx hy (by simp[mV,h1]) (by simp[mV,h2]) hb rfl
theorem iK{p:Bool}(hx:un g (S.get C x)= .val (.bool p):=by first|exact rfl|exact cP):bU C f call S g ⟨ac d, .unOp .not T x,ty,pos,bl,bS⟩=ac ⟨[(d, .val (.bool !p))],[],[]⟩:=by show yo C _ .not (un g (S.get C x))=_;rw[hx];rfl
theorem ahS{op:UnOp}{fu oo:Value}(hb:FZ C.P op fu=ac oo)(hs:gX oo=bv)(hx:un g (S.get C x)= .val fu:=by first|exact rfl|exact cP):bU C f call S g ⟨ac d, .unOp op T x,ty,pos,bl,bS⟩=ac ⟨[(d, .val oo)],[],[]⟩:=by show yo C _ op (un g (S.get C x))=_;rw[hx];simp[hb,hs]
theorem ahN{fu oo:Value}(hb:GO C.P T dW fu=ac oo)(hx:un g (S.get C x)= .val fu:=by first|exact rfl|exact cP)(hs:gX oo=true:=by exact rfl)(hnb:vT C T dW=false:=by first|rfl|decide):bU C f call S g ⟨ac d, .convert T dW x,ty,pos,bl,bS⟩=ac ⟨[(d, .val oo)],[],[]⟩:=by show uy C _ T dW (un g (S.get C x))=_;rw[hx,acA hnb];simp[hb,hs]
theorem ct{p q r:Bool}(hx:un g (S.get C x)= .val (.bool p):=by first|exact rfl|exact cP)(hy:un (g&&p) (S.get C y)= .val (.bool q):=by first|exact rfl|exact cP)(hz:un (g&& !p) (S.get C z)= .val (.bool r):=by first|exact rfl|exact cP):bU C f call S g ⟨ac d, .pick x y z,ty,pos,bl,bS⟩=ac ⟨[(d, .val (.bool (if p then q else r)))],[],[]⟩:=by show wg _ (un g (S.get C x)) (un (g&&nU (un g (S.get C x))) (S.get C y)) (un (g&& !nU (un g (S.get C x))) (S.get C z))=_;rw[hx];simp only[nU];rw[hy,hz];rfl
theorem dz{q:Bool}(hx:un g (S.get C x)= .val (.bool bv):=by exact rfl)(hy:un (g&&bv) (S.get C y)= .val (.bool q):=by first|exact rfl|exact cP):bU C f call S g ⟨ac d, .pick x y z,ty,pos,bl,bS⟩=ac ⟨[(d, .val (.bool q))],[],[]⟩:=by show wg _ (un g (S.get C x)) (un (g&&nU (un g (S.get C x))) (S.get C y)) (un (g&& !nU (un g (S.get C x))) (S.get C z))=_;rw[hx];simp only[nU];rw[hy];generalize un (g&& !bv) (S.get C z)=w;cases w with|val v=>(cases v<;>rfl)|_=>rfl
theorem cz{q:Bool}(hx:un g (S.get C x)= .val (.bool ci):=by exact rfl)(hz:un (g&&bv) (S.get C z)= .val (.bool q):=by first|exact rfl|exact cP):bU C f call S g ⟨ac d, .pick x y z,ty,pos,bl,bS⟩=ac ⟨[(d, .val (.bool q))],[],[]⟩:=by show wg _ (un g (S.get C x)) (un (g&&nU (un g (S.get C x))) (S.get C y)) (un (g&& !nU (un g (S.get C x))) (S.get C z))=_;rw[hx];simp only[nU,Bool.not_false];rw[hz];generalize un (g&&ci) (S.get C y)=w;cases w with|val v=>(cases v<;>rfl)|_=>rfl
/-! ### Memory that does not change -/
theorem pJ{bb:Bool}{m:Nat}{cs cs':List U}[ha:ek C T bb m](hin:(C.gu f).contains d=true:=by exact rfl)(hx:un g (S.get C x)=v:=by exact gt)(hc:p7 bb v=ac cs:=by exact rfl)(hz:mm cs=cs':=by exact spine)(hi:fE cs'=true:=by exact rfl):bU C f call S g ⟨ac d, .box T x,ty,pos,bl,bS⟩=ac ⟨[(d, .bL cs')],[],[]⟩:=by show q2 C f S _ T (un g (S.get C x))=_;simp only[q2,ha.lZ,hx,hc,gW,hin,hz,hi,Ps,if_true];rfl
theorem aG{m:Nat}{cells cs:List U}[ha:ek C T ci m](hx:un g (S.get C x)= .bL cells:=by first|exact rfl|exact cP)(hm:m=1:=by exact rfl)(hv:cells=v::cs:=by exact rfl):bU C f call S g ⟨ac d, .load T x,ty,pos,bl,bS⟩=ac ⟨[(d,v)],[],[]⟩:=by show mF C S _ T (un g (S.get C x))=_;subst hm hv;simp[mF,ha.lZ,ha.sz,hx,jZ]
theorem fV{m:Nat}{cells cs:List U}[ha:ek C T bv m](hx:un g (S.get C x)= .bL cells:=by first|exact rfl|exact cP)(hl:GT m cells.length=true:=by exact rfl)(hv:cells.take m=cs:=by exact spine):bU C f call S g ⟨ac d, .load T x,ty,pos,bl,bS⟩=ac ⟨[(d, .agg cs)],[],[]⟩:=by show mF C S _ T (un g (S.get C x))=_;have hl':m<=cells.length:=Hb hl;simp[mF,ha.lZ,ha.sz,hx,hl',hv,jZ]
theorem aQ{i off m:Nat}{bb:Bool}{cells:List U}[hf:Fd C T i off m bb](hx:un g (S.get C x)= .bL cells:=by first|exact rfl|exact cP)(h0:A0 0 m=true:=by exact rfl)(hl:GT off cells.length=true:=by exact rfl)(hz:(C.gu f).contains d=false:=by exact rfl):bU C f call S g ⟨ac d, .fieldAddr T x i,ty,pos,bl,bS⟩=ac ⟨[(d, .bL (cells.drop off))],[],[]⟩:=by show vZ C f _ T i (un g (S.get C x))=_;have hl':off<=cells.length:=Hb hl;have h0':0<m:=of_decide_eq_true (qV h0);simp only[vZ,hf.fd,hx,gW,hz];rw[if_pos ⟨h0',hl'⟩];rfl
theorem oK{i off m:Nat}{cells cs:List U}[hf:Fd C T i off m ci](hx:un g (S.get C x)= .agg cells:=by first|exact rfl|exact cP)(hm:m=1:=by exact rfl)(hv:cells.drop off=v::cs:=by exact rfl)(hl:GT (off+1) cells.length=true:=by exact rfl):bU C f call S g ⟨ac d, .field T x i,ty,pos,bl,bS⟩=ac ⟨[(d,v)],[],[]⟩:=by show AP C _ T i (un g (S.get C x))=_;subst hm;have hl':off+1<=cells.length:=Hb hl;simp[AP,hf.fd,hx,hl',hv,jZ]
theorem dU{e:TypeId}{m:Nat}{bb:Bool}{α:Type}{c:α->List U}{q:List α}{i:Int}{r:α}(hi:idx q i=ac r)[hu:eM C T (.slice e)][hs:ek C e bb m](hx:un g (S.get C x)= .sl (q.map c):=by first|exact rfl|exact cP)(hy:un g (S.get C y)= .val (.int k i):=by first|exact rfl|exact cP)(h0:A0 0 m=true:=by exact rfl)(hr:(c r).length=m:=by exact rfl):bU C f call S g ⟨ac d, .indexAddr T x y,ty,pos,bl,bS⟩=ac ⟨[(d, .bL (c r))],[],[]⟩:=by show o4 C S _ T (un g (S.get C x)) (e8 (un g (S.get C y)))=_;have h0':0<m:=of_decide_eq_true (qV h0);have h1:=afO (c:=c) hi;unfold idx at h1;split at h1;·{rename_i hp;simp only[hx,hy,e8,o4,hu.ul,hs.sz,if_pos hp,h1,AC];simp[hr,h0']};·cases h1
def dD(s:ByteArray)(i:Int):Option UInt8:=if 0<=i then s[i.toNat]? else am
theorem eZ{s:ByteArray}{i:Int}{r:UInt8}(hi:dD s i=ac r)[hu:eM C T .string](hx:un g (S.get C x)= .val (.string s):=by first|exact rfl|exact cP)(hy:un g (S.get C y)= .val (.int k i):=by first|exact rfl|exact cP):bU C f call S g ⟨ac d, .index T x y,ty,pos,bl,bS⟩=ac ⟨[(d, .val (.int .u8 r.toNat))],[],[]⟩:=by show v7 C _ T (un g (S.get C x)) (e8 (un g (S.get C y)))=_;unfold dD at hi;split at hi;·{rename_i hp;simp only[hx,hy,e8,v7,hu.ul,if_pos hp,hi,AC];rfl};·cases hi
section
variable{e:TypeId}{xs:Array Operand}{ts:Array TypeId}{T:TypeId}
theorem eT{α:Type}{c:α->List U}{q:List α}(hx:un g (S.get C x)= .sl (q.map c):=by first|exact rfl|exact cP)[hu:eM C T (.slice e)]:bU C f call S g ⟨ac d, .call ⟨.builtin .len,⟨[x]⟩,⟨[T]⟩⟩,ty,pos,bl,bS⟩=ac ⟨[(d, .val (.int .i64 q.length))],[],[]⟩:=by show sH C _ _ ([x].map λx=>un g (S.get C x))=_;simp[hx,sH,hu.ul,Ev,Ew,He]
theorem wS{id:Id}{off m m':Nat}(hx:un g (S.get C x)= .rs id off m':=by first|exact rfl|exact cP)(hm:m'=m:=by first|exact List.length_map _|exact rfl)[hu:eM C T (.slice e)]:bU C f call S g ⟨ac d, .call ⟨.builtin .len,⟨[x]⟩,⟨[T]⟩⟩,ty,pos,bl,bS⟩=ac ⟨[(d, .val (.int .i64 m))],[],[]⟩:=by show sH C _ _ ([x].map λx=>un g (S.get C x))=_;simp[hx,sH,hu.ul,Ev,Ew,He,hm]
theorem iB{s:ByteArray}(hx:un g (S.get C x)= .val (.string s):=by first|exact rfl|exact cP)[hu:eM C T .string]:bU C f call S g ⟨ac d, .call ⟨.builtin .len,⟨[x]⟩,⟨[T]⟩⟩,ty,pos,bl,bS⟩=ac ⟨[(d, .val (.int .i64 s.size))],[],[]⟩:=by show sH C _ _ ([x].map λx=>un g (S.get C x))=_;simp[hx,sH,hu.ul,Ev,He]
end
theorem Up:([]:List (Nat×Operand)).map (λp=>(p.1,un g (S.get C p.2)))=[]:=rfl
theorem ajJ{i:Nat}{l:List (Nat×Operand)}{l':List (Nat×U)}(hx:un g (S.get C x)=v)(k:l.map (λp=>(p.1,un g (S.get C p.2)))=l'):((i,x)::l).map (λp=>(p.1,un g (S.get C p.2)))=(i,v)::l':=by simp[hx,k]
theorem Iy{l:List (Nat×Operand)}{l':List (Nat×U)}(h:l.map (λp=>(p.1,un g (S.get C p.2)))=l':=by repeat(first|exact Up|(apply ajJ;exact gt))):l.map (λp=>(p.1,un g (S.get C p.2)))=l':=h
theorem dy{p:List (Nat×Operand)}{gR cs cs0:List U}{pl:List (Nat×Nat×Bool)}{ps:List (Nat×U)}[hz:lz C T gR][hp:Pl C T pl](hq:(p.map λp=>(p.1,un g (S.get C p.2)))=ps:=by exact Iy)(hf:yq pl gR ps=ac cs0:=by exact rfl)(hc:cs0=cs:=by exact spine)(nx:C.xK f d=[]:=by exact rfl):bU C f call S g ⟨ac d, .build T ⟨p⟩,ty,pos,bl,bS⟩=ac ⟨[(d, .agg cs)],[],[]⟩:=by show vY C f _ T (p.map λp=>(p.1,un g (S.get C p.2)))=_;rw[hq];simp[vY,hz.gR,hp.pl,hf,hc,F4,nx,xL]
theorem j0{p:List (Nat×Operand)}{gR VZ cs cs0:List U}{l:List Nat}{pl:List (Nat×Nat×Bool)}{ps:List (Nat×U)}[hz:lz C T gR][hp:Pl C T pl](nx:C.xK f d=l:=by exact rfl)(Bj:xL l gR=VZ:=by exact rfl)(hq:(p.map λp=>(p.1,un g (S.get C p.2)))=ps:=by exact Iy)(hf:yq pl VZ ps=ac cs0:=by exact rfl)(hc:cs0=cs:=by exact spine):bU C f call S g ⟨ac d, .build T ⟨p⟩,ty,pos,bl,bS⟩=ac ⟨[(d, .agg cs)],[],[]⟩:=by subst Bj;show vY C f _ T (p.map λp=>(p.1,un g (S.get C p.2)))=_;rw[hq];simp[vY,hz.gR,hp.pl,hf,hc,F4,nx]
theorem u6{fk:Fn}{fs cs:Array Operand}{fa fb:List U}(ha:(fs.toList.map λx=>un g (S.get C x))=fa:=by exact spine)(hb:(cs.toList.map λx=>un g (S.get C x))=fb:=by exact spine):bU C f call S g ⟨ac d, .makeFunc fk fs cs,ty,pos,bl,bS⟩=ac ⟨[(d, .fn fk fa fb)],[],[]⟩:=by subst ha hb;rfl
theorem eN{vs:List U}{i:Nat}(hx:un g (S.get C x)= .aC vs:=by first|exact rfl|exact cP)(hi:vs[i]? =ac v:=by exact rfl):bU C f call S g ⟨ac d, .extract x i,ty,pos,bl,bS⟩=ac ⟨[(d,v)],[],[]⟩:=by show AO _ (un g (S.get C x)) i=_;rw[hx];simp[AO,hi]
theorem dG(hx:un g (S.get C x)=v:=by exact gt)(hv:(match v with| .bL _| .mp _ _ _| .fn (.func _) _ _=>bv|_=>ci)=true:=by exact rfl):bU C f call S g ⟨ac d, .nilCheck x,ty,pos,bl,bS⟩=ac ⟨[(d,v)],[],[]⟩:=by show Dw _ (un g (S.get C x))=_;rw[hx];cases v with|fn fk a b=>(cases fk<;>first|rfl|cases hv)|bL _=>(rfl)|mp _ _ _=>(rfl)|_=>cases hv
theorem ag8{P:Program}{ts:Array TypeId}{k:IntKind}{a b:Int}:HU P ts ty [.int k a, .int k b]=ac (.int k (max a b)):=by have e:(if b>a then b else a)=max a b:=by{omega};simp[HU,Builtin.max_,Builtin.max2,dA,List.foldlM,bind,Sem.bind,pure,e]
theorem aha{P:Program}{ts:Array TypeId}{k:IntKind}{a b:Int}:HV P ts ty [.int k a, .int k b]=ac (.int k (min a b)):=by have e:(if b<a then b else a)=min a b:=by{omega};simp[HV,Builtin.min_,Builtin.min2,dA,List.foldlM,bind,Sem.bind,pure,e]
theorem M1{k:IntKind}{a b:Int}{ts:Array TypeId}(hx:un g (S.get C x)= .val (.int k a):=by first|exact rfl|exact cP)(hy:un g (S.get C y)= .val (.int k b):=by first|exact rfl|exact cP):bU C f call S g ⟨ac d, .call ⟨.builtin .max,⟨[x,y]⟩,ts⟩,ty,pos,bl,bS⟩=ac ⟨[(d, .val (.int k (max a b)))],[],[]⟩:=by show(match jB ([x,y].map λx=>un g (S.get C x))with|some vs=>mU _ (HU C.P ts ty vs)|none=>am)=_;simp only[H2,H3,hx,hy,jB,Ha,ag8];rfl
theorem TH{k:IntKind}{a b:Int}{ts:Array TypeId}(hx:un g (S.get C x)= .val (.int k a):=by first|exact rfl|exact cP)(hy:un g (S.get C y)= .val (.int k b):=by first|exact rfl|exact cP):bU C f call S g ⟨ac d, .call ⟨.builtin .min,⟨[x,y]⟩,ts⟩,ty,pos,bl,bS⟩=ac ⟨[(d, .val (.int k (min a b)))],[],[]⟩:=by show(match jB ([x,y].map λx=>un g (S.get C x))with|some vs=>mU _ (HV C.P ts ty vs)|none=>am)=_;simp only[H2,H3,hx,hy,jB,Ha,aha];rfl
/-! ### Parts of slices and strings -/
def slc{α:Type}(l:List α)(lo hi:Option Int):Option (List α):=(bounds (lo.map ac) (hi.map ac) l.length).map λp=>(l.take p.2).drop p.1
def fJ(s:ByteArray)(lo hi:Option Int):Option ByteArray:=(bounds (lo.map ac) (hi.map ac) s.size).map λp=>s.extract p.1 p.2
theorem GH:(none.map λy=>e8 (un g (S.get C y)))=(am:Option Int).map some:=rfl
theorem GI{n:Int}(h:un g (S.get C y)= .val (.int k n):=by first|exact rfl|exact cP):((ac y).map λy=>e8 (un g (S.get C y)))=(ac n).map some:=by show ac (e8 (un g (S.get C y)))=_;rw[h];rfl
theorem C7{α:Type}{c:α->List U}{q:List α}{m:Nat}(hc:∀x,(c x).length=m):(q.map c).all (·.length==m)=true:=by simp[hc]
theorem M4{e:TypeId}{α:Type}{c:α->List U}{q r:List α}{lo hi:Option Operand}{lo' hi':Option Int}{m:Nat}{bb:Bool}(hr:slc q lo' hi'=ac r)[hu:eM C T (.slice e)][hs:ek C e bb m](hx:un g (S.get C x)= .sl (q.map c):=by first|exact rfl|exact cP)(h1:(lo.map λy=>e8 (un g (S.get C y)))=lo'.map some:=by first|exact GH|exact GI)(h2:(hi.map λy=>e8 (un g (S.get C y)))=hi'.map some:=by first|exact GH|exact GI)(h0:A0 0 m=true:=by exact rfl)(hl:∀x,(c x).length=m:=by exact λ_=>rfl):bU C f call S g ⟨ac d, .slice T x lo hi am,ty,pos,bl,bS⟩=ac ⟨[(d, .sl (r.map c))],[],[]⟩:=by unfold slc at hr;obtain⟨p,hp,rfl⟩:=Option.map_eq_some_iff.1 hr;show q5 C S _ T (un g (S.get C x)) _ _=_;have h0':0<m:=of_decide_eq_true (qV h0);rw[hx];simp only[q5,hu.ul,hs.sz,h1,h2,List.length_map,hp,AC];rw[if_pos ⟨h0',C7 hl⟩];simp[ret,put]
theorem mN{s r:ByteArray}{lo hi:Option Operand}{lo' hi':Option Int}(hr:fJ s lo' hi'=ac r)[hu:eM C T .string](hx:un g (S.get C x)= .val (.string s):=by first|exact rfl|exact cP)(h1:(lo.map λy=>e8 (un g (S.get C y)))=lo'.map some:=by first|exact GH|exact GI)(h2:(hi.map λy=>e8 (un g (S.get C y)))=hi'.map some:=by first|exact GH|exact GI):bU C f call S g ⟨ac d, .slice T x lo hi am,ty,pos,bl,bS⟩=ac ⟨[(d, .val (.string r))],[],[]⟩:=by show q5 C S _ T (un g (S.get C x)) (lo.map λy=>e8 (un g (S.get C y))) (hi.map λy=>e8 (un g (S.get C y)))=_;unfold fJ at hr;obtain⟨p,hp,rfl⟩:=Option.map_eq_some_iff.1 hr;rw[hx,h1,h2];simp only[q5,hu.ul,hp,AC];rfl
end
open Go
theorem acu{t:TypeId}(e:cB):gw (iw t e)=true:=by cases e<;>rfl
theorem adE{t:TypeId}{e:cB}:ff (iw t e)=iw t e:=by cases e<;>rfl
theorem SA{t:TypeId}{e:cB}{p:Id}:imp p (iw t e)=(iw t e,[]):=by cases e<;>rfl
theorem afS{t:TypeId}{e:cB}{p:Id}{j:Nat}:fF p j [iw t e]=([iw t e],[]):=by cases e<;>rfl
/-! ### Owned cells become objects -/
section
variable{α:Type}{c:α->List U}{q:List α}{p:Id}{j:Nat}{l l0 l':List U}{v v':U}{wr:List (Id×Option Rows)}{rows:Rows}
theorem amK:b5 p j []=([],[]):=rfl
theorem amJ(hl:l=v::l0)(hv:b5 p j [v]=([v],[]))(k:b5 p (j+1) l0=(l',wr)):b5 p j l=(v::l',wr):=by subst hl;cases v<;>simp_all[b5]
theorem amL{m:Nat}(hl:l= .own (q.map c) m::l0)(k:b5 p (j+1) l0=(l',wr)):b5 p j l=(.rs (j::p) 0 m::l',(j::p,ac (q.map c))::wr):=by subst hl;simp[b5,k]
theorem z7(h:b5 p j l=(l',wr):=by repeat'(first|exact amK|(apply amJ;exact rfl;(first|exact rfl|exact arZ|exact VJ))|(apply amL;exact rfl)|(apply ar0;exact rfl)|(apply ar1;exact rfl))):b5 p j l=(l',wr):=h
theorem afX{m:Nat}:imp p (.own (q.map c) m)=(.rs p 0 m,[(p,ac (q.map c))]):=by simp[imp]
theorem afW(h:b5 p 0 l=(l',wr)):imp p (.agg l)=(.agg l',wr):=by simp[imp,h]
theorem afY(h:b5 p 0 l=(l',wr)):imp p (.c8 l)=(.mp p 0 0,(p,ac [l'])::wr):=by simp[imp,h]
theorem afU:fF p j []=([],[]):=rfl
theorem afT(hl:l=v::l0)(hv:fF p j [v]=([v],[]))(k:fF p (j+1) l0=(l',wr)):fF p j l=(v::l',wr):=by subst hl;cases v with|own rows m=>(simp[fF]at hv)|c8 cells=>(simp[fF]at hv)|fo rows=>(simp[fF]at hv)|agg cs=>(simp only[fF,PQ,Prod.mk.injEq,List.cons.injEq,U.agg.injEq,and_true]at hv;simp[fF,k,hv.1,hv.2])|aC vs=>(simp[fF]at hv)|_=>simp[fF,k]
theorem afR{w1 w2:List (Id×Option Rows)}{a a':List U}(hl:l= .agg a::l0)(h:b5 (j::p) 0 a=(a',w1))(k:fF p (j+1) l0=(l',w2)):fF p j l=(.agg a'::l',w1++w2):=by subst hl;simp[fF,k,h]
theorem af0(h:fF p 0 l=(l',wr)):imp p (.aC l)=(.aC l',wr):=by simp[imp,h]
theorem Em(h:imp p v=(v',wr):=by first|exact(rfl:imp _ (.val _)=(.val _,[]))|exact(rfl:imp _ (.sl _)=(.sl _,[]))|exact SA|exact afZ|exact afX|exact ao5|exact ao6|(apply afW;exact z7)|(apply afY;exact z7)|(apply af0;repeat'(first|exact afU|(apply afT;exact rfl;(first|exact rfl|exact afS|exact ao4))|(apply ao3;exact rfl)|(apply ao2;exact rfl)|(apply afR;exact rfl;exact z7)))|exact rfl):imp p v=(v',wr):=h
theorem ahd{n:Nat}{vs:List U}:bp n [] vs=⟨n,λ_=> .aS,λ_=>am⟩:=rfl
theorem ahc{n s:Nat}{t:Nat->U}{h:Id->Option (Option Rows)}{l:List Nat}{vs:List U}(hi:imp [s] v=(v,[]))(k:bp n l vs=⟨n,t,h⟩):bp n (s::l) (v::vs)=⟨n,av t s v,h⟩:=by simp[bp,k,hi,bD]
theorem ahb{n s:Nat}{t:Nat->U}{h:Id->Option (Option Rows)}{l:List Nat}{vs:List U}(hi:imp [s] v=(v',wr))(k:bp n l vs=⟨n,t,h⟩):bp n (s::l) (v::vs)=⟨n,av t s v',bD h wr⟩:=by simp[bp,k,hi]
theorem MI{n:Nat}{t:Nat->U}{h:Id->Option (Option Rows)}{l:List Nat}{vs:List U}(k:bp n l vs=⟨n,t,h⟩:=by repeat'(first|exact ahd|(apply ahc;first|exact rfl|exact SA|exact afZ)|(apply ahb;exact Em))):bp n l vs=⟨n,t,h⟩:=k
end
section
variable{C:aH}{f:FuncId}{call:gB}{c:Code}{Q:Exit×ai->Prop}{n:Nat}{t:Nat->U}{h:Id->Option (Option Rows)}{l:List Nat}{vs:List U}
theorem mk(k:W C f call c ⟨n,t,h⟩ Q)(hm:bp n l vs=⟨n,t,h⟩:=by exact MI):W C f call c (bp n l vs) Q:=by rw[hm];exact k
theorem lQ{e:Exit}(k:Q (e,⟨n,t,h⟩))(hm:bp n l vs=⟨n,t,h⟩:=by exact MI):Q (e,bp n l vs):=by rw[hm];exact k
end
/-! ### Packing -/
def QC{α:Type}(a b:List α):List α:=b.take (min b.length a.length)++a.drop (min b.length a.length)
theorem Kc{α:Type}(a b:List α):(QC a b).length=a.length:=by unfold QC;rw[List.length_append,List.length_take,H4];omega
section
variable{L:Id->Option (Option Rows)}{n:Nat}{α:Type}{c:α->List U}{q:List α}{id:Id}{cs cs':List U}{ids is:List Id}{x v:U}
theorem wh [hc:oT c](q:List α):e6 (q.map c)=true:=ac4 c q hc.fl
theorem ze{m m':Nat}(h:m=m':=by first|exact rfl|exact List.length_map _|(first|(with_reducible assumption)|assumption)|(symm;(first|(with_reducible assumption)|assumption))|(simp only[List.length_map,List.length_set,Kc];done)|(simp only[List.length_map,List.length_set,Kc];first|(first|(with_reducible assumption)|assumption)|(symm;(first|(with_reducible assumption)|assumption)))|(simp only[List.length_map,List.length_set,Kc, *];done)):m=m':=h
theorem ajr{y:U×List Id}:∀{a:U},flat a=bv->pk L (n+1) a=ac y->y=(a,[]):=by intro a hf h;cases a with|agg cs=>(simp only[flat]at hf;simp[pk,jN,hf]at h;exact h.symm)|aC cs=>(simp only[flat]at hf;simp[pk,jN,hf]at h;exact h.symm)|own rs m=>(simp only[flat]at hf;simp[pk,hf]at h;exact h.symm)|c8 cs=>(simp only[flat]at hf;simp[pk,hf]at h;exact h.symm)|fn k a b=>(simp only[pk]at h;split at h;·{simpa using h.symm};·cases h)|rs _ _ _=>(simp[flat]at hf)|mp _ _ _=>(simp[flat]at hf)|mr _=>(simp[flat]at hf)|dO _ _=>(simp[flat]at hf)|cg=>(simp[flat]at hf)|_=>simp[pk]at h;exact h.symm
theorem Ru:∀{cs:List U}{y:List U×List Id},dw cs=bv->fe (pk L (n+1)) cs=ac y->y=(cs,[])|[],y,_,h=>by{simp[fe]at h;exact h.symm}|c::cs,y,hf,h=>by simp only[dw,GE]at hf;simp only[fe,Hc,Pi]at h;obtain⟨u,hu,v,hv,rfl⟩:=h;obtain rfl:=ajr hf.1 hu;obtain rfl:=Ru hf.2 hv;rfl
theorem Uf{y:List U×List Id}(h:fe (pk L (n+1)) cs=ac y):jN (pk L (n+1)) cs=ac y:=by unfold jN;split;·{rename_i hf;rw[Ru hf h]};·exact h
theorem ajq{w:Value}(hx:x= .val w:=by exact rfl):pk L (n+1) x=ac (.val w,[]):=by rw[hx];rfl
theorem ajp{r:Rows}(hx:x= .sl r:=by exact rfl):pk L (n+1) x=ac (.sl r,[]):=by rw[hx];rfl
theorem ajn{r:List U}(hx:x= .bL r:=by exact rfl):pk L (n+1) x=ac (.bL r,[]):=by rw[hx];rfl
theorem aji{t:TypeId}{e:cB}(hx:x=iw t e:=by first|exact rfl|exact IZ):pk L (n+1) x=ac (iw t e,[]):=by rw[hx];cases e<;>rfl
theorem ajm(hx:x= .cg:=by exact rfl):pk L (n+1) x=ac (.own [] 0,[]):=by rw[hx];rfl
theorem ajo{m:Nat}[hc:oT c](hx:x= .rs id 0 m:=by exact rfl)(hh:L id=ac (ac (q.map c)):=by exact rfl)(hl:m=q.length:=by exact ze):pk L (n+1) x=ac (.own (q.map c) q.length,[id]):=by rw[hx,hl];exact ajs hh (by simp) (wh q)
theorem ajh(hx:x= .agg cs:=by exact rfl)(hf:dw cs=true:=by exact rfl):pk L (n+1) x=ac (.agg cs,[]):=by rw[hx];simp[pk,jN,hf]
theorem ajg(hx:x= .agg cs)(h:fe (pk L (n+1)) cs=ac (cs',ids)):pk L (n+2) x=ac (.agg cs',ids):=by rw[hx,show pk L (n+2) (.agg cs)=(jN (pk L (n+1)) cs).map λx=>(.agg x.1,x.2)from rfl,Uf h];rfl
theorem ajl(hx:x= .mp id 0 0:=by exact rfl)(hh:L id=ac (ac [cs]):=by exact rfl)(hf:dw cs=true:=by exact rfl):pk L (n+1) x=ac (.c8 cs,[id]):=by rw[hx];simp[pk,jN,hh,hf]
theorem ajk(hx:x= .mp id 0 0)(hh:L id=ac (ac [cs]))(h:fe (pk L (n+1)) cs=ac (cs',ids)):pk L (n+2) x=ac (.c8 cs',id::ids):=by have e:pk L (n+2) (.mp id 0 0)=match L id with|some (ac [cs])=>if 0=0∧0=0 then(jN (pk L (n+1)) cs).map λx=>(.c8 x.1,id::x.2)else am|_=>none:=rfl;rw[hx,e,hh];simp only[and_self,if_true,Uf h];rfl
theorem ajj{k:Fn}{a b:List U}(hx:x= .fn k a b:=by exact rfl)(hf:(fE a&&fE b)=true:=by exact rfl):pk L (n+1) x=ac (.fn k a b,[]):=by rw[hx];simp only[GE]at hf;simp[pk,hf.1,hf.2]
theorem DF{p:U->Option (U×List Id)}(hx:cs=[]:=by exact rfl):fe p cs=ac ([],[]):=by rw[hx];rfl
theorem DE{p:U->Option (U×List Id)}{a b:U}{as bs:List U}{i1 i2:List Id}(hx:cs=a::as)(h:p a=ac (b,i1))(k:fe p as=ac (bs,i2)):fe p cs=ac (b::bs,i1++i2):=by subst hx;simp[fe,h,k]
theorem ajv{t:Nat->U}:kE L t []=ac ([],[]):=rfl
theorem aju{t:Nat->U}{s:Nat}{sl:List Nat}{vs:List U}(h1:pk L 9 (t s)=ac (v,ids))(h2:kE L t sl=ac (vs,is)):kE L t (s::sl)=ac (v::vs,ids++is):=by rw[aiZ,h1,AC,h2];rfl
end
/-! ### One row of a list, open -/
section
variable{α:Type}{c c':α->List U}{q:List α}{k:Nat}{x x':α}{r r':List U}
end
/-! ### Packing -/
section
variable{L:Id->Option (Option Rows)}{n m:Nat}{α:Type}{c c':α->List U}{q:List α}{k:Nat}{x x':α}{r r':List U}{id:Id}{ids:List Id}{v:U}
end
section
variable{L:Id->Option (Option Rows)}{n:Nat}{α:Type}{c:α->List U}{q:List α}{id:Id}{cs cs':List U}{ids is:List Id}{x v:U}
theorem oO{a:U}{y:Option (U×List Id)}(h:pk L n a=y:=by repeat'(first|exact ajq|exact aji|exact ap8|exact ap4|exact ajp|exact ajo|exact aqa|(apply aqd;exact rfl;exact rfl;exact rfl;(first|(with_reducible assumption)|assumption);exact ze;rotate_left;exact rfl)|(apply aqc;exact rfl;exact rfl;exact rfl;(first|(with_reducible assumption)|assumption);exact ag0;rotate_left;exact rfl)|exact ajh|exact ajn|exact ajm|exact ap5|exact ajl|exact ap2|exact ap9|exact ap6|exact aqf|exact ajj|exact ap3|exact ap7|exact ap1|exact DF|(apply DE;exact rfl)|(apply ajg;exact rfl)|(apply ajk;exact rfl;exact rfl)|(apply aqe;exact rfl)|(apply aqb;exact rfl;exact rfl;exact rfl;exact rfl)|exact aqx|(apply aqw;exact rfl)|exact apZ|(apply ap0;exact rfl))):pk L n a=y:=h
theorem Iw{t:Nat->U}{sl:List Nat}{y:Option (List U×List Id)}(h:kE L t sl=y:=by repeat'(first|exact ajv|(apply aju;exact oO))):kE L t sl=y:=h
theorem aK{o:Option (Bool×List Nat)}{slots:List Nat}{t:Nat->U}{vs:List U}(hk:o=ac (ci,slots):=by exact rfl)(hp:kE L t slots=ac (vs,is):=by exact Iw)(hn:eB is=true:=by exact rfl):fD o ⟨n,t,L⟩=ac (bp n slots vs):=by subst hk;show(j4 ⟨n,t,L⟩ slots).map _=_;rw[aj8,hp];simp[hn]
end
/-! ### The same with names kept -/
section
variable{n:Nat}{t t2:Nat->U}{h:Id->Option (Option Rows)}{slots r:List Nat}{l:List (Id×Id)}{hl y:List (Id×Rows)}{α:Type}{c:α->List U}{q:List α}
def dI(n:Nat)(l:List (Nat×U))(h:List (Id×Rows)):ai:=⟨n,dM (λ_=> .aS) l,kD h⟩
/-! Rows that are flat, cell by cell. -/
theorem Ro{α:Type}{c:α->List U}{q:List α}{m:Nat}[hc:oT c]:flat (.own (q.map c) m)=true:=by simp[flat,wh]
theorem Rl{r cs:List U}{a:U}(e:r=a::cs)(h1:flat a=bv)(h2:dw cs=bv):dw r=true:=by subst e;simp[dw,h1,h2]
theorem acT{rows:Rows}(e:rows=[]:=by exact rfl):e6 rows=true:=by subst e;rfl
theorem acU{rows rs:Rows}{r:List U}(e:rows=r::rs)(h1:dw r=bv)(h2:e6 rs=bv):e6 rows=true:=by subst e;simp[e6,h1,h2]
theorem Kx{rows:Rows}(k:e6 rows=true:=by(repeat'(first|exact wh _|exact acT|(apply acU;exact rfl)|exact acR|(apply Rl;exact rfl)|exact rfl|exact acO|exact acS|exact Ro));first|done|fail):e6 rows=true:=k
theorem ahf:qn l t []=dM (λ_=> .aS) []:=rfl
theorem ahe{s:Nat}{v':U}{vs:List (Nat×U)}(he:fz l (t s)=v')(hr:qn l t r=dM (λ_=> .aS) vs):qn l t (s::r)=dM (λ_=> .aS) ((s,v')::vs):=by subst he;simp[qn,hr,dM]
theorem NI [hc:oT c]:nH l (q.map c)=ac (q.map c):=by simp[nH,wh]
theorem NK{cs cs':List U}(hf:dw cs=false:=by exact rfl)(h:qD l cs=ac cs':=by first|exact rfl|exact aqA):nH l [cs]=ac [cs']:=by simp[nH,e6,hf,Cb,h]
theorem NJ{rows:Rows}(hf:e6 rows=true:=by first|exact rfl|exact Kx):nH l rows=ac rows:=by simp[nH,hf]
end
section
variable{l:List (Id×Id)}{α:Type}{c:α->List U}{q:List α}{k:Nat}{x x':α}{r r':List U}
theorem aj5{a:U}(h:flat a=bv):xg l a=ac a:=by cases a with|fn k as cs=>(simp only[xg];rw[if_pos (by simpa[flat]using h)])|rs _ _ _=>(simp[flat]at h)|mp _ _ _=>(simp[flat]at h)|mr _=>(simp[flat]at h)|cg=>(simp[flat]at h)|_=>simp only[xg,B7];rw[if_pos h]
theorem Fj:∀{as:List U},dw as=bv->qD l as=ac as|[],_=>rfl|a::as,h=>by simp only[dw,GE]at h;simp[qD,aj5 h.1,Fj h.2]
end
section
variable{n:Nat}{t t2:Nat->U}{h:Id->Option (Option Rows)}{slots r:List Nat}{l:List (Id×Id)}{hl y:List (Id×Rows)}{α:Type}{c:α->List U}{q:List α}
theorem afb{L:Id->Option (Option Rows)}:qd L l []=ac []:=rfl
theorem afa{L:Id->Option (Option Rows)}{r:List (Id×Id)}{o k:Id}{rows bQ:Rows}(h:L o=ac (ac rows))(hr:nH l rows=ac bQ)(hy:qd L l r=ac y):qd L l ((o,k)::r)=ac ((k,bQ)::y):=by simp[qd,h,hr,hy]
theorem hnk{L:Id->Option (Option Rows)}{r:List (Id×Id)}(h:qd L l r=ac y:=by repeat'(first|exact afb|(apply afa;exact rfl;first|exact NI|exact aqH rfl|exact aqJ (by(first|(with_reducible assumption)|assumption))|exact NK|exact NJ))):qd L l r=ac y:=h
theorem ahg{vs:List (Nat×U)}(h:qn l t slots=dM (λ_=> .aS) vs:=by repeat'(first|exact ahf|(apply ahe;first|exact rfl|exact aqI))):qn l t slots=dM (λ_=> .aS) vs:=h
def aga:U->Bool| .cg=>bv|_=>ci
theorem Tw{y:ai}(e:(⟨n,t,h⟩:ai)=y:=by exact rfl):k3 [] ⟨n,t,h⟩=y:=e
theorem ahF{s:Nat}{sl:List Nat}{y:ai}(hs:aga (t s)=ci)(k:k3 sl ⟨n,t,h⟩=y):k3 (s::sl) ⟨n,t,h⟩=y:=by have e:rQ ⟨n,t,h⟩ s=⟨n,t,h⟩:=by{simp only[rQ];split;·{rename_i h1 _;rw[h1]at hs;cases hs};·rfl};rw[k3,e];exact k
theorem ahE{s:Nat}{sl:List Nat}{y:ai}(hs:t s= .cg)(hh:h [s,s]=am)(k:k3 sl ⟨n,av t s (.rs [s,s] 0 0),av h [s,s] (ac (ac []))⟩=y):k3 (s::sl) ⟨n,t,h⟩=y:=by have e:rQ ⟨n,t,h⟩ s=⟨n,av t s (.rs [s,s] 0 0),av h [s,s] (ac (ac []))⟩:=by{simp only[rQ,hs,hh]};rw[k3,e];exact k
theorem ahG{y:ai}(k:k3 slots ⟨n,t,h⟩=y:=by repeat'(first|with_reducible exact Tw|(apply ahF;first|exact rfl|exact apg|exact aph)|(apply ahE;exact rfl;exact rfl)|exact Tw)):k3 slots ⟨n,t,h⟩=y:=k
section
variable{keep:Id->Bool}{o:Id}{ol:List Id}{y0:Option ai}{rows bQ:Rows}{ids:List Id}{r r':List U}{k:Nat}
theorem aba{α:Type}{g:α->Id}{y0:Option ai}(e:ac (⟨n,t,h⟩:ai)=y0:=by exact rfl):kg keep (List.map g []) ⟨n,t,h⟩=y0:=e
theorem ahl(e:(eB ids&& !ids.contains o)=bv):(eB ids&& !ids.contains o)=true:=e
theorem aa8(hh:h o=ac (ac rows))(hf:e6 rows=bv)(k:kg keep ol ⟨n,t,h⟩=y0):kg keep (o::ol) ⟨n,t,h⟩=y0:=by have e:qX keep ⟨n,t,h⟩ o=ac ⟨n,t,h⟩:=by{simp only[qX,hh,hf,if_true]};rw[kg,e];exact k
theorem abe(hh:h o=ac (ac rows))(hf:e6 rows=ci)(hc:fQ (mE h keep) rows=ac (bQ,ids))(hn:(eB ids&& !ids.contains o)=bv)(k:kg keep ol ⟨n,t,bD h ((o,ac bQ)::ids.map λi=>(i,am))⟩=y0):kg keep (o::ol) ⟨n,t,h⟩=y0:=by have e:qX keep ⟨n,t,h⟩ o=ac ⟨n,t,bD h ((o,ac bQ)::ids.map λi=>(i,am))⟩:=by{simp only[qX,hh,hf,hc,hn,if_true];rfl};rw[kg,e];exact k
theorem QF(hf:dw r=false:=by exact rfl)(hc:fe (iH h keep) r=ac (r',ids)):mE h keep r=ac (r',ids):=by simp[mE,hf,hc]
theorem Rs{p:List U->Option (List U×List Id)}(e:rows=[]:=by exact rfl):fQ p rows=ac ([],[]):=by subst e;rfl
theorem Rt{p:List U->Option (List U×List Id)}{rs:Rows}{i1 i2:List Id}(e:rows=r::rs)(h1:p r=ac (r',i1))(h2:fQ p rs=ac (bQ,i2)):fQ p rows=ac (r'::bQ,i1++i2):=by subst e;simp[fQ,h1,h2]
theorem JX{i:Id}{off len:Nat}{x:U}(hx:x= .rs i off len:=by exact rfl)(hk:keep i=true:=by exact rfl):iH h keep x=ac (.rs i off len,[]):=by subst hx;simp[iH,hk]
theorem JY{i:Id}{row off:Nat}{x:U}(hx:x= .mp i row off:=by exact rfl)(hk:keep i=true:=by exact rfl):iH h keep x=ac (.mp i row off,[]):=by subst hx;simp[iH,hk]
theorem J0{i:Id}{off len:Nat}{x x':U}(hx:x= .rs i off len:=by exact rfl)(hk:keep i=false:=by exact rfl)(hp:pk h 8 (.rs i off len)=ac (x',ids)):iH h keep x=ac (x',ids):=by subst hx;simp[iH,hk,hp]
theorem JZ{x:U}(hx:x= .cg:=by exact rfl):iH h keep x=ac (.own [] 0,[]):=by subst hx;rfl
theorem Mp:∀{l:List U},dw l=bv->Bz keep l=bv|[],_=>rfl|a::l,hf=>by simp only[dw,GE]at hf;simp only[Bz,List.all_cons,GE];refine⟨?_,Mp hf.2⟩;cases a<;>first|exact hf.1|(simp[flat]at hf)
theorem Dk{x:U}(hf:flat x=bv):iH h keep x=ac (x,[]):=by cases x with|fn k as cs=>(simp only[flat,GE]at hf;simp only[iH];rw[if_pos (by simp[Mp hf.1,Mp hf.2])])|rs _ _ _=>(simp[flat]at hf)|mp _ _ _=>(simp[flat]at hf)|mr _=>(simp[flat]at hf)|cg=>(simp[flat]at hf)|_=>simp only[iH];rw[if_pos hf]
end
section
variable{α:Type}{c:α->List U}{q:List α}{k:Nat}{x x':α}{r r':List U}{ids:List Id}{keep:Id->Bool}{o:Id}{ol:List Id}{y0:Option ai}
end
theorem abg{keep:Id->Bool}{ol:List Id}{y0:Option ai}(k:kg keep ol ⟨n,t,h⟩=y0:=by repeat'(first|with_reducible exact anQ|with_reducible exact aba|(apply aa8;exact rfl;first|exact wh _|exact rfl|exact Kx)|(apply anR;exact rfl;exact rfl;(first|(with_reducible assumption)|assumption);exact inferInstance)|(apply abe;exact rfl;exact rfl)|exact Rs|(apply Rt;exact rfl)|exact abG|(apply QF;exact rfl)|exact JX|exact JY|exact Qm|exact JZ|(apply Qo;exact rfl;exact rfl;exact oO)|(apply J0;exact rfl;exact rfl;exact oO)|(apply Qn;exact rfl;exact rfl;exact oO)|(apply Dk;first|exact rfl|exact Rm|exact Rp|exact Rn)|exact Ql|exact DF|(apply DE;exact rfl)|exact ahl rfl)):kg keep ol ⟨n,t,h⟩=y0:=k
/-! Names, one by one. -/
def SY:U->Bool| .fn _ as cs=> !(dw as&&dw cs)| .rs _ _ _=>bv| .mp _ _ _=>bv| .mr _=>bv| .agg _=>bv|_=>ci
section
variable{L:Id->Option (Option Rows)}{m j:Nat}{p i:Id}{acc acc' oZ y l:List (Id×Id)}{a:U}{as cs fc:List U}{S:ai}{s:Nat}{slots:List Nat}
theorem abN(hx:fc=[])(e:acc=y):ga L m p j acc fc=y:=by subst hx;cases m<;>exact e
theorem abV(hx:fc=a::as)(hs:SY a=ci)(k:ga L m p (j+1) acc as=y):ga L (m+1) p j acc fc=y:=by subst hx;cases a with|fn f xs cs=>(simp only[SY,Bool.not_eq_false']at hs;simp only[ga,if_pos hs];exact k)|_=>first|exact k|cases hs
theorem MP{i q:Id}(h:iR i=ci)(h2:iR q=ci):th i q=q:=by simp[th,h,h2]
theorem MQ{i q:Id}(h:iR i=bv):th i q=i:=by simp[th,h]
variable{nm:Id}
theorem abT{o n:Nat}(hx:fc= .rs i o n::as)(hn:(gQ acc i).isSome=ci)(hm:th i (j::p)=nm)(hl:acc++[(i,nm)]=acc')(k:ga L m p (j+1) acc' as=y):ga L (m+1) p j acc fc=y:=by subst hx hl hm;simp only[ga,hn];exact k
theorem abU{o n:Nat}(hx:fc= .rs i o n::as)(hn:(gQ acc i).isSome=bv)(k:ga L m p (j+1) acc as=y):ga L (m+1) p j acc fc=y:=by subst hx;simp only[ga,hn];exact k
theorem abQ{o n:Nat}(hx:fc= .mp i o n::as)(hn:(gQ acc i).isSome=ci)(hh:L i=ac (ac [cs]))(hm:th i (j::p)=nm)(hl:acc++[(i,nm)]=acc')(h1:ga L m (j::p) 0 acc' cs=oZ)(k:ga L m p (j+1) oZ as=y):ga L (m+1) p j acc fc=y:=by subst hx hl h1 hm;simp only[ga,hn,hh];exact k
theorem abR{o n:Nat}(hx:fc= .mp i o n::as)(hn:(gQ acc i).isSome=bv)(k:ga L m p (j+1) acc as=y):ga L (m+1) p j acc fc=y:=by subst hx;simp only[ga,hn];exact k
theorem abL(hx:fc= .agg cs::as)(h1:ga L m (j::p) 0 acc cs=oZ)(k:ga L m p (j+1) oZ as=y):ga L (m+1) p j acc fc=y:=by subst hx h1;simp only[ga];exact k
theorem abP{f:Fn}{xs:List U}(hx:fc= .fn f xs cs::as)(hf:(dw xs&&dw cs)=ci)(h1:ga L m (j::p) 0 acc (xs++cs)=oZ)(k:ga L m p (j+1) oZ as=y):ga L (m+1) p j acc fc=y:=by subst hx h1;simp only[ga,hf];exact k
theorem ahu(e:acc=l):Hn (λacc s=>ga S.h 40 [s] 0 acc [S.t s]) acc []=l:=e
theorem aht(h:ga S.h 40 [s] 0 acc [S.t s]=acc')(k:Hn (λacc s=>ga S.h 40 [s] 0 acc [S.t s]) acc' slots=l):Hn (λacc s=>ga S.h 40 [s] 0 acc [S.t s]) acc (s::slots)=l:=by subst h;exact k
theorem ahs{Vf:List Nat}(hs:slots=Vf)(h:Hn (λacc s=>ga S.h 40 [s] 0 acc [S.t s]) [] Vf=l):names S slots=l:=by subst hs;exact h
theorem ahv(h:names S slots=l:=by((with_reducible apply ahs);exact spine);repeat'(first|((with_reducible apply ahu);exact rfl)|(with_reducible apply aht)|((with_reducible apply abN);(with_reducible exact rfl);exact rfl)|((with_reducible apply abV);exact rfl;first|exact rfl|exact apt|exact apw)|((with_reducible apply abT);exact rfl;exact rfl;(first|exact MP rfl rfl|exact MQ rfl|exact Tv rfl rfl spine);exact spine)|((with_reducible apply abU);exact rfl;exact rfl)|((with_reducible apply anX);exact rfl;exact rfl;(first|exact MP rfl rfl|exact MQ rfl|exact Tv rfl rfl spine);exact spine)|((with_reducible apply anY);exact rfl;exact rfl)|((with_reducible apply abR);exact rfl;exact rfl)|((with_reducible apply abQ);exact rfl;exact rfl;exact rfl;(first|exact MP rfl rfl|exact MQ rfl|exact Tv rfl rfl spine);exact spine)|((with_reducible apply abL);exact rfl)|((with_reducible apply abP);exact rfl;exact rfl))):names S slots=l:=h
end
theorem ahD{t0 t1:Nat->U}{h0 h1:Id->Option (Option Rows)}{vs:List (Nat×U)}(e0:k3 slots ⟨n,t,h⟩=⟨n,t0,h0⟩:=by exact ahG)(hn:names ⟨n,t0,h0⟩ slots=l:=by first|exact ahv|exact spine)(e1:kg (uX l) (l.map (·.1)) ⟨n,t0,h0⟩=ac ⟨n,t1,h1⟩:=by exact abg)(hd:(eB (l.map (·.1))&&eB (l.map (·.2))&&l.all (λx=> !iR x.2||x.1==x.2))=true:=by exact rfl)(hh:qd h1 l l=ac hl:=by exact hnk)(ht:qn l t1 slots=dM (λ_=> .aS) vs:=by exact ahg):norm ⟨n,t,h⟩ slots=ac (dI n vs hl):=by subst hn;simp only[norm,H8,e0,e1,AC,wR,hd,if_true,hh,Ha,ht,dI]
theorem bO{o:Option (Bool×List Nat)}{vs:List (Nat×U)}(hk:o=ac (bv,slots):=by exact rfl)(hm:norm ⟨n,t,h⟩ slots=ac (dI n vs hl):=by exact ahD):fD o ⟨n,t,h⟩=ac (dI n vs hl):=by subst hk;exact hm
end
section
variable{C:aH}{f:FuncId}{call:gB}{c:Code}{Q:Exit×ai->Prop}{n:Nat}{l:List (Nat×U)}{h:List (Id×Rows)}
theorem fj(k:W C f call c ⟨n,dM (λ_=> .aS) l,kD h⟩ Q):W C f call c (dI n l h) Q:=k
theorem pP{e:Exit}(k:Q (e,⟨n,dM (λ_=> .aS) l,kD h⟩)):Q (e,dI n l h):=k
end
section
variable{α:Type}{c c':α->List U}{q:List α}{as bs:List U}{L:Id->Option (Option Rows)}{n:Nat}
/-! Freezing -/
theorem adJ [hc:Gb c c']:ff (.own (q.map c) q.length)= .sl (q.map c'):=by have:kQ (q.map c)=q.map c':=by{induction q with|nil=>(rfl)|cons x q ih=>simp[kQ,hc.ff,ih]};simp only[ff,this];rw[H5 (by simp)]
theorem adD{a b:U}(h:ff a=b)(k:ku as=bs):ku (a::as)=b::bs:=by simp[ku,h,k]
theorem adC(h:ku as=bs):ff (.agg as)= .agg bs:=by simp[ff,h]
theorem adL(h:ku as=bs):ff (.aC as)= .aC bs:=by simp[ff,h]
theorem adK(h:ku as=bs):ff (.c8 as)= .bL bs:=by simp[ff,h]
theorem KJ{a b:U}(h:ff a=b:=by repeat'(first|exact(rfl:ff (.val _)= .val _)|exact adE|exact aov|exact adJ|exact aou|exact(rfl:ff (.sl _)= .sl _)|apply adC|apply adL|apply adK|exact(rfl:ku []=[])|apply adD|exact rfl)):ff a=b:=h
end
/-! ### Memory of one's own -/
def app{α:Type}(a b:List α):Option (List α):=if a.length+b.length<=4294967296 then ac (a++b)else am
theorem P6{α:Type}{a b r:List α}(h:app a b=ac r):a.length+b.length<=4294967296∧r=a++b:=by unfold app at h;split at h;·{exact⟨‹_›,by simpa using h.symm⟩};·cases h
def wO{α:Type}(n:Int)(z:α):Option (List α):=if 0<=n∧n<=4294967296 then ac (Hm n.toNat z)else am
theorem NL{α:Type}{c:α->List U}{q:List α}[hc:tW c]:tG (q.map c)=true:=by simp only[tG,IH,Hk];exact λx _=>hc.ce x
section
variable{C:aH}{f:FuncId}{call:gB}{S:ai}{g:Bool}
variable{d:Nat}{ty:TypeId}{pos:String}{bl:Array Edge}{bS:Option (Nat×Bool)}{v v':U}
variable{x y z:Operand}{k:IntKind}{a b:Int}{T dW:TypeId}
theorem dS{cs:List U}[hz:uk C T cs](hn:S.h [d]=none:=by exact rfl)(nx:C.xK f d=[]:=by exact rfl):bU C f call S g ⟨ac d, .alloc T,ty,pos,bl,bS⟩=ac ⟨[(d, .mp [d] 0 0)],[],[([d],ac [cs])]⟩:=by show uv C f S _ T=_;simp[uv,hz.V1,hn,nx,xL]
theorem rT{bb:Bool}{m:Nat}{cs:List U}[ha:ek C T bb m](hin:(C.gu f).contains d=false:=by exact rfl)(hx:un g (S.get C x)=v:=by exact gt)(hc:p7 bb v=ac cs:=by exact rfl)(hn:S.h [d]=none:=by exact rfl):bU C f call S g ⟨ac d, .box T x,ty,pos,bl,bS⟩=ac ⟨[(d, .mp [d] 0 0)],[],[([d],ac [cs])]⟩:=by show q2 C f S _ T (un g (S.get C x))=_;simp only[q2,ha.lZ,hx,hc,gW,hin,QP,Do,if_false];rw[if_pos (SD hn)];rfl
theorem cy{i off off' row m:Nat}{bb:Bool}{id:Id}[hf:Fd C T i off m bb](hx:un g (S.get C x)= .mp id row off':=by first|exact rfl|exact cP)(h0:A0 0 m=true:=by exact rfl):bU C f call S g ⟨ac d, .fieldAddr T x i,ty,pos,bl,bS⟩=ac ⟨[(d, .mp id row (off'+off))],[],[]⟩:=by show vZ C f _ T i (un g (S.get C x))=_;have h0':0<m:=of_decide_eq_true (qV h0);simp[vZ,hf.fd,hx,h0']
theorem Mu{bb:Bool}{m row off:Nat}{id:Id}{rows:Rows}{r cs:List U}(ha:kW C T=ac bb)(hs:iL C T=ac m)(hx:un g (S.get C x)= .mp id row off)(hh:S.h id=ac (ac rows))(hr:rows[row]? =ac r)(hl:GT (off+m) r.length=bv)(hc:b5 [d] 0 ((r.drop off).take m)=(cs,[]))(hv:jZ bb cs=ac v):bU C f call S g ⟨ac d, .load T x,ty,pos,bl,bS⟩=ac ⟨[(d,v)],[id],[]⟩:=by show mF C S _ T (un g (S.get C x))=_;rw[hx];have hl':off+m<=r.length:=Hb hl;simp only[mF,ha,hs,hh,hr,AC,if_pos hl',jG,hc,hv,List.isEmpty_nil,if_true,Ha];rfl
theorem agO{bb:Bool}{m row off:Nat}{id:Id}{rows:Rows}{r cs:List U}{w:Id×Option Rows}{wr:List (Id×Option Rows)}(ha:kW C T=ac bb)(hs:iL C T=ac m)(hx:un g (S.get C x)= .mp id row off)(hh:S.h id=ac (ac rows))(hr:rows[row]? =ac r)(hl:GT (off+m) r.length=bv)(hc:b5 [d] 0 ((r.drop off).take m)=(cs,w::wr))(hf:fresh S.h (w::wr)=bv)(hv:jZ bb cs=ac v):bU C f call S g ⟨ac d, .load T x,ty,pos,bl,bS⟩=ac ⟨[(d,v)],[id],(id,ac (rows.set row (r.take off++cs++r.drop (off+m))))::w::wr⟩:=by show mF C S _ T (un g (S.get C x))=_;rw[hx];have hl':off+m<=r.length:=Hb hl;simp only[mF,ha,hs,hh,hr,AC,if_pos hl',jG,hc,hv,PH,Do,if_false,hf,if_true,Ha];rfl
theorem BN{m row off:Nat}{id:Id}{α:Type}{c:α->List U}{q:List α}{r:α}{cs:List U}(hr:q[row]? =ac r)[ha:ek C T ci m](hx:un g (S.get C x)= .mp id row off:=by first|exact rfl|exact cP)(hh:S.h id=ac (ac (q.map c)):=by exact rfl)(hm:m=1:=by exact rfl)(hv:(c r).drop off=v::cs:=by exact rfl)(hu:b5 [d] 0 [v]=([v],[]):=by first|exact rfl|exact VJ):bU C f call S g ⟨ac d, .load T x,ty,pos,bl,bS⟩=ac ⟨[(d,v)],[id],[]⟩:=by subst hm;refine Mu (rows:=q.map c) (r:=c r) (cs:=[v]) ha.lZ ha.sz hx hh (by simp[hr]) ?_ (by rw[hv];exact hu) rfl;have:=congrArg List.length hv;simp only[H4,QQ]at this;apply QR;omega
theorem c7{m off:Nat}{id:Id}{r cs:List U}[ha:ek C T ci m](hx:un g (S.get C x)= .mp id 0 off:=by first|exact rfl|exact cP)(hh:S.h id=ac (ac [r]):=by exact rfl)(hm:m=1:=by exact rfl)(hv:r.drop off=v::cs:=by exact rfl)(hu:b5 [d] 0 [v]=([v],[]):=by first|exact rfl|exact VJ):bU C f call S g ⟨ac d, .load T x,ty,pos,bl,bS⟩=ac ⟨[(d,v)],[id],[]⟩:=by subst hm;refine Mu (rows:=[r]) (r:=r) (cs:=[v]) ha.lZ ha.sz hx hh rfl ?_ (by rw[hv];exact hu) rfl;have:=congrArg List.length hv;simp only[H4,QQ]at this;apply QR;omega
theorem nC{m off:Nat}{id:Id}{r cs cs0:List U}[ha:ek C T bv m](hx:un g (S.get C x)= .mp id 0 off:=by first|exact rfl|exact cP)(hh:S.h id=ac (ac [r]):=by exact rfl)(hl:GT (off+m) r.length=true:=by exact rfl)(hv:(r.drop off).take m=cs0:=by exact spine)(hu:b5 [d] 0 cs0=(cs,[]):=by exact z7):bU C f call S g ⟨ac d, .load T x,ty,pos,bl,bS⟩=ac ⟨[(d, .agg cs)],[id],[]⟩:=Mu (rows:=[r]) (r:=r) ha.lZ ha.sz hx hh rfl hl (by rw[hv];exact hu) rfl
theorem ahO{m off:Nat}{id:Id}{r r' cs cs0:List U}{w:Id×Option Rows}{wr:List (Id×Option Rows)}[ha:ek C T bv m](hx:un g (S.get C x)= .mp id 0 off:=by first|exact rfl|exact cP)(hh:S.h id=ac (ac [r]):=by exact rfl)(hl:GT (off+m) r.length=true:=by exact rfl)(hv:(r.drop off).take m=cs0:=by exact spine)(hu:b5 [d] 0 cs0=(cs,w::wr):=by exact z7)(hq:r.take off++cs++r.drop (off+m)=r':=by exact spine)(hf:fresh S.h (w::wr)=true:=by exact rfl):bU C f call S g ⟨ac d, .load T x,ty,pos,bl,bS⟩=ac ⟨[(d, .agg cs)],[id],(id,ac [r'])::w::wr⟩:=by subst hq;exact agO (rows:=[r]) (r:=r) ha.lZ ha.sz hx hh rfl hl (by rw[hv];exact hu) hf rfl
def IV(L:List Nat):Operand->Bool| .tmp ta=>L.contains ta|_=>ci
theorem RD{a:Operand}(hin:IV (C.gu f) a=ci):yu C f a=none:=by cases a with|tmp ta=>(simp only[IV]at hin;unfold yu;simp only;rw[if_neg (by rw[hin];simp)])|_=>rfl
theorem gO{bb:Bool}{m ta:Nat}{id:Id}{cs cs' r:List U}[ha:ek C T bb m](hin:(C.gu f).contains ta=true:=by exact rfl)(hx:un bv (S.get C (.tmp ta))= .mp id 0 0:=by exact rfl)(hy:un bv (S.get C y)=v:=by exact gt)(hc:p7 bb v=ac cs:=by exact rfl)(cp:cs.length=m:=by exact rfl)(hh:S.h id=ac (ac [r]):=by exact rfl)(hr:r.length=m:=by exact rfl)(hz:mm cs=cs':=by exact spine)(hi:fE cs'=true:=by exact rfl):bU C f call S bv ⟨am, .store T (.tmp ta) y,ty,pos,bl,bS⟩=ac ⟨[(ta, .bL cs')],[id],[(id,am)]⟩:=by show o6 C f S bv _ T (.tmp ta) (un bv (S.get C (.tmp ta))) (un bv (S.get C y))=_;rw[hx,hy];have e:yu C f (.tmp ta)=ac ta:=by{unfold yu;simp only;rw[if_pos hin]};subst hz;simp[o6,ha.lZ,ha.sz,hc,cp,hh,hr,e,hi]
theorem ck{bb:Bool}{m off:Nat}{ao:Operand}{id:Id}{cs r r':List U}[ha:ek C T bb m](hin:IV (C.gu f) ao=false:=by exact rfl)(hx:un g (S.get C ao)= .mp id 0 off:=by exact rfl)(hy:un g (S.get C y)=v:=by exact gt)(hc:p7 bb v=ac cs:=by exact rfl)(cp:cs.length=m:=by exact rfl)(hh:S.h id=ac (ac [r]):=by exact rfl)(hl:GT (off+m) r.length=true:=by exact rfl)(hq:r.take off++cs++r.drop (off+m)=r':=by exact spine):bU C f call S g ⟨am, .store T ao y,ty,pos,bl,bS⟩=ac ⟨[],[id],[(id,ac [r'])]⟩:=by show o6 C f S g _ T ao (un g (S.get C ao)) (un g (S.get C y))=_;rw[hx,hy];have hl':off+m<=r.length:=Hb hl;have e:=RD (f:=f) hin;subst hq;simp only[o6,ha.lZ,ha.sz,hc];rw[if_neg (by simp[cp]),hh];simp only[RK,AC,if_pos hl',e];rfl
theorem M5{bb:Bool}{m row off:Nat}{ao:Operand}{id:Id}{cs:List U}{α:Type}{c:α->List U}{q:List α}{r:α}(hr:q[row]? =ac r)(r':α)[ha:ek C T bb m](hin:IV (C.gu f) ao=false:=by exact rfl)(hx:un g (S.get C ao)= .mp id row off:=by exact rfl)(hy:un g (S.get C y)=v:=by exact gt)(hc:p7 bb v=ac cs:=by first|exact rfl|exact anS)(cp:cs.length=m:=by exact rfl)(hh:S.h id=ac (ac (q.map c)):=by exact rfl)(hl:GT (off+m) (c r).length=true:=by exact rfl)(hq:(c r).take off++cs++(c r).drop (off+m)=c r':=by exact rfl):bU C f call S g ⟨am, .store T ao y,ty,pos,bl,bS⟩=ac ⟨[],[id],[(id,ac ((q.set row r').map c))]⟩:=by show o6 C f S g _ T ao (un g (S.get C ao)) (un g (S.get C y))=_;rw[hx,hy];have hl':off+m<=(c r).length:=Hb hl;have e:=RD (f:=f) hin;have e2:(q.map c)[row]? =ac (c r):=by{simp[hr]};simp only[o6,ha.lZ,ha.sz,hc];rw[if_neg (by simp[cp]),hh];simp only[e2,AC,if_pos hl',e];rw[hq,List.map_set];rfl
theorem u7{e:TypeId}{m n:Nat}{bb:Bool}{α:Type}{c:α->List U}{q:List α}{i:Int}{r:α}{id:Id}(hi:idx q i=ac r)[hu:eM C T (.slice e)][hs:ek C e bb m](hx:un g (S.get C x)= .rs id 0 n:=by first|exact rfl|exact cP)(hh:S.h id=ac (ac (q.map c)):=by exact rfl)(hl:n=q.length:=by exact ze)(hy:un g (S.get C y)= .val (.int k i):=by first|exact rfl|exact cP)(hr:(c r).length=m:=by exact rfl):bU C f call S g ⟨ac d, .indexAddr T x y,ty,pos,bl,bS⟩=ac ⟨[(d, .mp id i.toNat 0)],[id],[]⟩:=by show o4 C S _ T (un g (S.get C x)) (e8 (un g (S.get C y)))=_;have hb:=Mf hi;have hn:=qh hi;subst hl;simp only[hx,hy,e8,o4,hu.ul,hs.sz];rw[if_pos hb,hh];simp[hn,hr]
section
variable{α:Type}{c:α->List U}{q q' r:List α}{id HH:Id}{e:TypeId}{m n n':Nat}{T dW:TypeId}
abbrev Da:= @ow
theorem P3{rx:U}{xs ys:Rows}{i1 i2:List Id}(hok:Db C e m=bv)(hu:C.P.underlying T=ac (.slice e))(hu1:C.P.underlying dW=ac (.slice e))(hx:un g (S.get C x)=rx)(LY:rowsOf S.h rx=ac (xs,i1))(hy:rowsOf S.h (un g (S.get C y))=ac (ys,i2))(hl:ys.all (·.length==m)=bv)(hcell:tG ys=bv)(hlen:xs.length+ys.length<=uZ)(hn:S.h [d]=am){AL:bg}(he:Da S ⟨ac d, .call ⟨.builtin .append,⟨[x,y]⟩,⟨[T,dW]⟩⟩,ty,pos,bl,bS⟩ d m rx xs ys i1 i2=ac AL):nq C S ⟨ac d, .call ⟨.builtin .append,⟨[x,y]⟩,⟨[T,dW]⟩⟩,ty,pos,bl,bS⟩ ⟨[T,dW]⟩ ([x,y].map λx=>un g (S.get C x))=ac AL:=by unfold Db at hok;split at hok;·{rename_i inf LF;simp only[GE,beq_iff_eq,decide_eq_true_eq]at hok;obtain⟨⟨⟨k1,k2⟩,dZ⟩,jY⟩:=hok;subst k1;have e1:(#[T,dW]:Array TypeId)[0]? =ac T:=rfl;have e2:(#[T,dW]:Array TypeId)[1]? =ac dW:=rfl;simp only[H2,H3,nq,e1,e2,AC,hu1,Ap,hu,LF,hx,LY,hy];rw[if_pos (by simp only[GE,decide_eq_true_eq];exact⟨⟨⟨⟨⟨⟨hl,k2⟩,dZ⟩,jY⟩,hlen⟩,hcell⟩,by rw[hn];rfl⟩)];unfold Da at he;exact he};·cases hok
theorem ZG{rx:U}{xs ys:Rows}{i1 i2:List Id}(hok:Db C e m=bv)(hu:C.P.underlying T=ac (.slice e))(hu1:C.P.underlying dW=ac (.slice e))(hx:un g (S.get C x)=rx)(LY:rowsOf S.h rx=ac (xs,i1))(hy:rowsOf S.h (un g (S.get C y))=ac (ys,i2))(hl:ys.all (·.length==m)=bv)(hcell:tG ys=bv)(hlen:xs.length+ys.length<=uZ)(hn:S.h [d]=am)(hfz:(C.gu f).contains d=ci){AL:bg}(he:Da S ⟨ac d, .call ⟨.builtin .append,⟨[x,y]⟩,⟨[T,dW]⟩⟩,ty,pos,bl,bS⟩ d m rx xs ys i1 i2=ac AL):bU C f call S g ⟨ac d, .call ⟨.builtin .append,⟨[x,y]⟩,⟨[T,dW]⟩⟩,ty,pos,bl,bS⟩=ac AL:=by show(nq C S _ _ ([x,y].map λx=>un g (S.get C x))).bind (q7 C f _)=_;have key:nq C S ⟨ac d, .call ⟨.builtin .append,⟨[x,y]⟩,⟨[T,dW]⟩⟩,ty,pos,bl,bS⟩ ⟨[T,dW]⟩ ([x,y].map λx=>un g (S.get C x))=ac AL:=P3 hok hu hu1 hx LY hy hl hcell hlen hn he;rw[key];simp only[AC,q7,gW,hfz,Do,if_false]
theorem UU{L:Id->Option (Option Rows)}(hh:L id=ac (ac (q.map c))):rowsOf L (.rs id 0 q.length)=ac (q.map c,[id]):=by show(match L id with|some (ac rs)=>if 0+q.length<=rs.length then ac ((rs.drop 0).take q.length,[id])else am|_=>am)=_;rw[hh];simp only;rw[if_pos (by simp),If,H5 (by simp)]
theorem mo(hr:app q q'=ac r)[hu:eM C T (.slice e)][hu1:eM C dW (.slice e)][hok:tT C e m](hx:un g (S.get C x)= .rs id 0 n:=by exact rfl)(hh:S.h id=ac (ac (q.map c)):=by exact rfl)(hlen:n=q.length:=by exact ze)(hy:un g (S.get C y)= .sl (q'.map c):=by exact rfl)(hl:∀x,(c x).length=m:=by exact λ_=>rfl)(hcell:tG (q'.map c)=true:=by first|exact NL|exact rfl)(hn:S.h [d]=none:=by exact rfl)(hfz:(C.gu f).contains d=false:=by exact rfl):bU C f call S g ⟨ac d, .call ⟨.builtin .append,⟨[x,y]⟩,⟨[T,dW]⟩⟩,ty,pos,bl,bS⟩=ac ⟨[(d, .rs [d] 0 r.length)],[id],[(id,am),([d],ac (r.map c))]⟩:=by obtain⟨h1,rfl⟩:=P6 hr;subst hlen;refine ZG hok.ao hu.ul hu1.ul hx (UU hh) (by rw[hy];rfl) (C7 hl) hcell (by simpa[uZ]using h1) hn hfz ?_;simp only[Da,ow,hh];rw[if_pos (by simp only[GE];refine⟨⟨C7 hl,by simp⟩, ?_⟩;cases q<;>simp)];simp[put,R0]
theorem TD [aeC:tW c](hr:app q q'=ac r)[hu:eM C T (.slice e)][hu1:eM C dW (.slice e)][hok:tT C e m](hx:un g (S.get C x)= .rs id 0 n:=by exact rfl)(hh:S.h id=ac (ac (q.map c)):=by exact rfl)(hlen:n=q.length:=by exact ze)(hy:un g (S.get C y)= .sl (q'.map c):=by exact rfl)(hl:∀x,(c x).length=m:=by exact λ_=>rfl)(hcell:tG (q'.map c)=true:=by first|exact NL|exact rfl)(hn:S.h [d]=none:=by exact rfl)(hfz:(C.gu f).contains d=true:=by exact rfl):bU C f call S g ⟨ac d, .call ⟨.builtin .append,⟨[x,y]⟩,⟨[T,dW]⟩⟩,ty,pos,bl,bS⟩=ac ⟨[(d, .sl (r.map c))],[id],[(id,am),([d],am)]⟩:=by obtain⟨h1,rfl⟩:=P6 hr;subst hlen;show(nq C S _ _ ([x,y].map λx=>un g (S.get C x))).bind (q7 C f _)=_;have key:nq C S ⟨ac d, .call ⟨.builtin .append,⟨[x,y]⟩,⟨[T,dW]⟩⟩,ty,pos,bl,bS⟩ ⟨[T,dW]⟩ ([x,y].map λx=>un g (S.get C x))=ac ⟨[(d, .rs [d] 0 (q++q').length)],[id],[(id,am),([d],ac ((q++q').map c))]⟩:=by{refine P3 hok.ao hu.ul hu1.ul hx (UU hh) (by rw[hy];rfl) (C7 hl) hcell (by simpa[uZ]using h1) hn ?_;simp only[Da,ow,hh];rw[if_pos (by simp only[GE];refine⟨⟨C7 hl,by simp⟩, ?_⟩;cases q<;>simp)];simp[put,R0]};have hi:lG ((q++q').map c)=true:=by{simp only[lG,IH,Hk];exact λx _=>aeC.im x};rw[key];simp only[AC,q7,gW,hfz,if_true,hi,and_self,put]
end
theorem TG{e:TypeId}{m:Nat}{α:Type}{c:α->List U}{dL:α}{gR:List U}{nn:Int}{r:List α}(hr:wO nn dL=ac r)(Md:c dL=gR)[hu:eM C T (.slice e)][hok:tT C e m][hz:uk C e gR](hx:un g (S.get C x)= .val (.int k nn):=by exact rfl)(hy:un g (S.get C y)= .val (.int k nn):=by exact rfl)(hzl:gR.length=m:=by exact rfl)(hn:S.h [d]=none:=by exact rfl):bU C f call S g ⟨ac d, .makeSlice T x y,ty,pos,bl,bS⟩=ac ⟨[(d, .rs [d] 0 r.length)],[],[([d],ac (r.map c))]⟩:=by show uz C S _ T (un g (S.get C x)) (un g (S.get C y))=_;unfold wO at hr;split at hr;·{rename_i hp;obtain rfl:Hm nn.toNat dL=r:=by{simpa using hr};have hok:=hok.ao;unfold Db at hok;split at hok;·{rename_i inf LF;simp only[GE,beq_iff_eq,decide_eq_true_eq]at hok;obtain⟨⟨⟨k1,k2⟩,dZ⟩,jY⟩:=hok;simp only[hx,hy,uz,hu.ul,e8,hz.V1,LF];rw[if_pos (by simp only[GE,decide_eq_true_eq];exact⟨⟨⟨⟨by omega,by omega⟩,dZ⟩,by omega⟩,by rw[hn];rfl⟩)];simp[put,Md]};·cases hok};·cases hr
theorem aau{e:TypeId}{bb:Bool}{m len:Nat}{gR:List U}{ps:List (Nat×U)}{rows:Rows}(hu:C.P.underlying T=ac (.slice e))(hz:z8 C e=ac gR)(ha:kW C e=ac bb)(hs:iL C e=ac m)(h0:(decide (0<m)&&decide (m=gR.length)&&decide (len*m<=1000))=bv)(hf:uA m bb (Hm len gR) ps=ac rows):AA C T len ps=ac rows:=by simp only[AA,hu,hz,ha,hs,h0,if_true,hf]
theorem cc{e:TypeId}{bb:Bool}{m len:Nat}{gR:List U}{p:List (Nat×Operand)}{ps:List (Nat×U)}{rows bQ:Rows}[hu:eM C T (.slice e)][hz:lz C e gR][ha:ek C e bb m](hin:(C.gu f).contains d=true:=by exact rfl)(h0:(decide (0<m)&&decide (m=gR.length)&&decide (len*m<=1000))=true:=by exact rfl)(hq:(p.map λp=>(p.1,un g (S.get C p.2)))=ps:=by exact Iy)(hf:uA m bb (Hm len gR) ps=ac rows:=by exact rfl)(Bj:rows.map mm=bQ:=by exact spine)(hi:lG bQ=true:=by exact rfl):bU C f call S g ⟨ac d, .buildSlice T len ⟨p⟩,ty,pos,bl,bS⟩=ac ⟨[(d, .sl bQ)],[],[]⟩:=by show q3 C f S _ T len (p.map λp=>(p.1,un g (S.get C p.2)))=_;rw[hq];have hb:=aau hu.ul hz.gR ha.lZ ha.sz h0 hf;unfold q3;rw[if_neg (by simp[JU,hb,Bj,hi])];simp only[ux,hu.ul,hz.gR,ha.lZ,ha.sz,h0,if_true,hf,gW,hin,Bj,hi,Ps];rfl
theorem EJ{e:TypeId}{bb:Bool}{m len:Nat}{gR:List U}{p:List (Nat×Operand)}{ps:List (Nat×U)}{rows bQ:Rows}[hu:eM C T (.slice e)][hz:lz C e gR][ha:ek C e bb m](hin:(C.gu f).contains d=false:=by exact rfl)(h0:(decide (0<m)&&decide (m=gR.length)&&decide (len*m<=1000))=true:=by exact rfl)(hq:(p.map λp=>(p.1,un g (S.get C p.2)))=ps:=by exact Iy)(hf:uA m bb (Hm len gR) ps=ac rows:=by exact rfl)(hs:rows=bQ:=by exact spine)(hn:S.h [d]=none:=by exact rfl):bU C f call S g ⟨ac d, .buildSlice T len ⟨p⟩,ty,pos,bl,bS⟩=ac ⟨[(d, .rs [d] 0 len)],[],[([d],ac bQ)]⟩:=by show q3 C f S _ T len (p.map λp=>(p.1,un g (S.get C p.2)))=_;subst hs;rw[hq];unfold q3;rw[if_neg (by simp[JU,gW];intro h;simp[h]at hin)];simp only[ux,hu.ul,hz.gR,ha.lZ,ha.sz,h0,if_true,hf,gW,hin,QP,Do,if_false];rw[if_pos (SD hn)];rfl
/-! ### Calls -/
section
variable{L:Id->Option (Option Rows)}{n m:Nat}{α:Type}{c c':α->List U}{q:List α}{id:Id}{as bs cs cs':List U}{is i2:List Id}{x u:U}
theorem Qg{a:U}(h:gw a=bv):cY L (n+1) a=ac (a,[]):=by cases a with|agg cs=>(simp only[gw]at h;simp[cY,lA,h])|aC cs=>(simp only[gw]at h;simp[cY,lA,h])|fn k a b=>(simp only[gw,GE]at h;simp[cY,lA,h])|_=>first|rfl|simp[gw]at h
theorem aaC{w:Value}(hx:x= .val w:=by exact rfl):cY L (n+1) x=ac (.val w,[]):=by rw[hx];rfl
theorem aaB{r:Rows}(hx:x= .sl r:=by exact rfl):cY L (n+1) x=ac (.sl r,[]):=by rw[hx];rfl
theorem aaz(hx:x= .cg:=by exact rfl):cY L (n+1) x=ac (.sl [],[]):=by rw[hx];rfl
theorem aax{t:TypeId}{e:cB}(hx:x=iw t e:=by first|exact rfl|exact IZ):cY L (n+1) x=ac (iw t e,[]):=by rw[hx];exact Qg (acu e)
theorem aay(hx:x=u:=by exact gt)(hi:gw u=true:=by exact rfl):cY L (n+1) x=ac (u,[]):=by rw[hx];exact Qg hi
theorem aaA [hc:tW c](hx:x= .rs id 0 m:=by exact rfl)(hh:L id=ac (ac (q.map c)):=by exact rfl)(hl:m=q.length:=by exact ze):cY L (n+1) x=ac (.sl (q.map c),[id]):=by subst hx hl;have hi':lG (q.map c)=true:=by{simp only[lG,IH,Hk];exact λx _=>hc.im x};have e:((q.map c).drop 0).take q.length=q.map c:=by{rw[If,H5 (by simp)]};have e0:cY L (n+1) (.rs id 0 q.length)=match L id with|some (ac rs)=>if 0+q.length<=rs.length then(p4 (cY L n) ((rs.drop 0).take q.length)).map λx=>(.sl x.1,id::x.2)else am|_=>none:=rfl;rw[e0,hh];simp only;rw[if_pos (by simp),e];simp[p4,hi']
theorem aaw(hx:x= .agg cs)(hi:fE cs=ci)(h:fe (cY L n) cs=ac (cs',is)):cY L (n+1) x=ac (.agg cs',is):=by subst hx;simp[cY,lA,hi,h]
end
/-! ### Borrowing lists whose elements own memory -/
class am5{α:Type}(c:α->List U)(c':outParam (α->List U)):Prop where cY:∀L n x,fe (cY L (n+2)) (c x)=ac (c' x,[])MN:∀x,fE (c x)=ci
section
variable{L:Id->Option (Option Rows)}{n m:Nat}{α:Type}{c c':α->List U}{q:List α}{k:Nat}{x x':α}{r r':List U}{id:Id}{ids:List Id}{v:U}
end
section
variable{α:Type}{c c':α->List U}{q:List α}{L:Id->Option (Option Rows)}{n:Nat}{id:Id}{as bs cs cs':List U}{x:U}{is i2:List Id}
theorem aaD{y:Option (U×List Id)}(h:cY L n x=y:=by repeat'(first|exact aaC|exact anq|exact anr|(apply ans;exact rfl)|exact aax|exact anG|exact aaB|exact aaA|exact anI|exact anM|exact anL|(apply anJ;exact rfl;exact rfl;exact rfl;(first|(with_reducible assumption)|assumption);exact ze;exact inferInstance;rotate_left;exact rfl)|(apply anK;exact rfl;exact rfl;exact rfl;(first|(with_reducible assumption)|assumption);exact ag0;exact inferInstance;rotate_left;exact rfl)|exact aay|exact anF|exact aaz|exact anv|exact anH|exact anz|exact anC|exact anE|exact anD|exact anA|exact anx|exact anB|exact anu|exact DF|(apply DE;exact rfl)|(apply aaw;exact rfl;exact rfl)|(apply anw;exact rfl;exact rfl;exact rfl)|(apply ant;exact rfl))):cY L n x=y:=h
theorem aaj(h:as=[]:=by exact rfl):sy L as=ac ([],[]):=by subst h;rfl
theorem aai{a b:U}{z:List Id}(ha:cs=a::as)(h1:cY L 9 a=ac (b,is))(h2:sy L as=ac (bs,i2))(hz:is++i2=z):sy L cs=ac (b::bs,z):=by subst ha hz;unfold sy at*;simp[fe,h1,h2]
theorem blk{y:Option (List U×List Id)}(h:sy L as=y:=by repeat'(first|exact aaj|(apply aai;exact rfl;exact aaD)|exact rfl)):sy L as=y:=h
section
variable{ms:List Nat}{a b b':U}{i s t z:List Id}
end
/-! Nothing from elsewhere -/
end
section
variable{cU:Operand}{ts:Array TypeId}{fk:FuncId}{as bs cs args:List U}{seen:List Id}{r:U}{wr:List (Id×Option Rows)}{xs:Array Operand}
theorem RM(hfo:un g (S.get C cU)= .fn (.func fk) as bs)(ew:C.jg fk=ci):mb C (un g (S.get C cU))=none:=by rw[hfo];simp[mb,ew]
theorem Q7{d':Option Tmp}(h:mb C (un g (S.get C cU))=am):bU C f call S g ⟨d', .call ⟨.value cU,xs,ts⟩,ty,pos,bl,bS⟩=(match pathOf C cU with|some p=>v8 S ⟨d', .call ⟨.value cU,xs,ts⟩,ty,pos,bl,bS⟩ p (xs.toList.map λx=>un g (S.get C x))|none=>if IT C cU then(match(generalizing:=false)cU with| .func k=>AB C f call S ⟨d', .call ⟨.value cU,xs,ts⟩,ty,pos,bl,bS⟩ k (xs.toList.map λx=>un g (S.get C x))|_=>am)else sA C f call S ⟨d', .call ⟨.value cU,xs,ts⟩,ty,pos,bl,bS⟩ (un g (S.get C cU)) (xs.toList.map λx=>un g (S.get C x))):=by show(match mb C (un g (S.get C cU))with|some x=>p6 C f call S _ x.1 (x.2.1++(xs.toList.map λx=>un g (S.get C x))++x.2.2)|none=>_)=_;rw[h];first|rfl|(cases cU<;>rfl)
theorem ec(hc:call fk args=ac (r,[]))(hfo:un g (S.get C cU)= .fn (.func fk) as bs:=by exact rfl)(hb:sy S.h (as++(xs.toList.map λx=>un g (S.get C x))++bs)=ac (args,seen):=by exact blk)(hm:(seen.isEmpty||mine r)=true:=by first|exact rfl|exact ag9)(hz:(C.gu f).contains d=false:=by exact rfl)(hi:imp [d] r=(v',wr):=by exact Em)(hf:fresh S.h wr=true:=by exact rfl)(ht:IT C cU=false:=by exact rfl)(LU:pathOf C cU=none:=by exact rfl)(hlk:C.look fk=false:=by exact rfl)(ew:C.jg fk=false:=by exact rfl):bU C f call S g ⟨ac d, .call ⟨.value cU,xs,ts⟩,ty,pos,bl,bS⟩=ac ⟨[(d,v')],seen,wr⟩:=by rw[Q7 (RM hfo ew)];rw[LU];simp only;rw[ht];simp only[Do,if_false];rw[hfo];simp only[sA,hlk,hb,hc,gW,hz,Do,if_false];rw[if_neg (by cases seen with|nil=>(simp)|cons a l=>simp at hm;simp[hm]),hi];simp only[hf,if_true];rfl
theorem cQ(hc:call fk args=ac (r,[]))(hfo:un g (S.get C cU)= .fn (.func fk) as bs:=by exact rfl)(hb:sy S.h (as++(xs.toList.map λx=>un g (S.get C x))++bs)=ac (args,seen):=by exact blk)(hm:(seen.isEmpty||mine r)=true:=by first|exact rfl|exact ag9)(hz:(C.gu f).contains d=true:=by exact rfl)(hv:ff r=v:=by exact KJ)(hi:imp [d] v=(v',wr):=by exact Em)(hf:fresh S.h wr=true:=by exact rfl)(ht:IT C cU=false:=by exact rfl)(LU:pathOf C cU=none:=by exact rfl)(hlk:C.look fk=false:=by exact rfl)(ew:C.jg fk=false:=by exact rfl):bU C f call S g ⟨ac d, .call ⟨.value cU,xs,ts⟩,ty,pos,bl,bS⟩=ac ⟨[(d,v')],seen,wr⟩:=by rw[Q7 (RM hfo ew)];rw[LU];simp only;rw[ht];simp only[Do,if_false];rw[hfo];simp only[sA,hlk,Do,if_false,hb,hc,gW,hz,if_true,hv];rw[if_neg (by cases seen with|nil=>(simp)|cons a l=>simp at hm;simp[hm]),hi];simp only[hf,if_true];rfl
end
end
open Go
def Ds{α:Type}(a b:List α):Option Unit:=if a.length=b.length then ac ()else am
theorem aco{α:Type}{a b:List α}{u:Unit}(h:Ds a b=ac u):a.length=b.length:=by unfold Ds at h;split at h;·{(first|(with_reducible assumption)|assumption)};·cases h
section
variable{L:Id->Option (Option Rows)}{id:Id}{cs old as bs args:List U}{n m:Nat}{α:Type}{c:α->List U}{q q0:List α}{w w2:List (Id×Option Rows)}{a b:U}{j:Nat}{l:List Nat}
end
section
variable{C:aH}{f:FuncId}{call:gB}{S:ai}{g:Bool}
variable{d:Nat}{ty:TypeId}{pos:String}{bl:Array Edge}{bS:Option (Nat×Bool)}{v v':U}
end
theorem cW{C:aH}{f:FuncId}{a b:Nat}{args:List U}{r:Option (U×List U)}(h:den C a f args=r)(e:a=b):den C b f args=r:=e▸h
/-! ### Functions -/
def wX:List U->U|[r]=>r|vs=> .aC vs
def Fin(C:aH)(rv:List ResultVar)(dR:List Nat)(r:U)(outs:List U)(x:Exit×ai):Prop:=(x.1= .ret∨x.1= .normal)∧∃vs ids is,lT C x.2 rv=ac (vs,ids)∧kE x.2.h x.2.t dR=ac (outs,is)∧eB (ids++is)=bv∧wX vs=r
section
variable{C:aH}{f:FuncId}{call:gB}{S:ai}{T:TypeId}
variable{rv:List ResultVar}{dR:List Nat}{vs outs cs r:List U}{ids is:List Id}{v v':U}
theorem akq:lT C S []=ac ([],[]):=rfl
theorem aks{t:Nat}(h:pk S.h 9 (un bv (S.t t))=ac (v,ids))(hr:lT C S rv=ac (vs,is)):lT C S (.tmp t::rv)=ac (v::vs,ids++is):=by show(xh C S (.tmp t)).bind _=_;simp only[xh,h,AC,hr,Ha]
theorem akr{a m:Nat}{id:Id}{bb:Bool}[ha:ek C T bb m](hx:un bv (S.t a)= .mp id 0 0)(hh:S.h id=ac (ac [r]))(hl:GT m r.length=bv)(hv:jZ bb (r.take m)=ac v)(h:pk S.h 9 v=ac (v',ids))(hr:lT C S rv=ac (vs,is)):lT C S (.cell a T::rv)=ac (v'::vs,id::ids++is):=by show(xh C S (.cell a T)).bind _=_;have hl':0+m<=r.length:=by{have:=Hb hl;omega};simp only[xh,ha.lZ,ha.sz,hx,hh,RK,if_pos hl',If,hv,AC,h,hr,Ha]
theorem HY{cells:List U}(hc:cells=cs:=by exact spine):jZ bv cells=ac (.agg cs):=by subst hc;rfl
theorem NO{y:Option (List U×List Id)}(h:lT C S rv=y:=by repeat'(first|with_reducible exact akq|((with_reducible apply aks);exact oO)|((with_reducible apply akr);exact rfl;exact rfl;exact rfl;(first|exact HY|exact MH rfl);exact oO)|((with_reducible apply aqM);exact rfl;exact rfl;(first|exact HY|exact MH rfl);exact oO))):lT C S rv=y:=h
theorem fin{r:U}(h:lT C S rv=ac (vs,ids):=by exact NO)(hp:kE S.h S.t dR=ac (outs,is):=by exact Iw)(hn:eB (ids++is)=true:=by exact rfl)(hr:wX vs=r:=by exact rfl):Fin C rv dR r outs (.ret,S):=⟨.inl rfl,vs,ids,is,h,hp,hn,hr⟩
theorem dQ{fn:Func}{c:Code}{args:List U}{nn N:Nat}{r:U}{t:Nat->U}{h:Id->Option (Option Rows)}{sl:List Nat}(hf:C.P.funcs[f]? =ac fn)(hn:fn.ntmps=N)(hr:fn.results.toList=rv)(k:W C f (den C nn) c ⟨N,t,h⟩ (Fin C rv dR r outs))(hb:fn.body=ac c:=by exact rfl)(he:C.ext f=none:=by exact rfl)(hle:C.dR f=dR:=by exact rfl)(hl:GT args.length N=true:=by exact rfl)(nx:H1 args.length=sl:=by exact rfl)(hm:bp N sl args=⟨N,t,h⟩:=by exact MI)(ew:C.jg f=false:=by exact rfl):den C (nn+1) f args=ac (r,outs):=by obtain⟨⟨e,s⟩,h1,h2,vs,ids,is,h3,h6,h4,h5⟩:=k;subst hr hn hle nx;show sF C (den C nn) lH f args=_;unfold sF;simp only[he,hf,hb,ew,Do,if_false,if_pos (Hb hl),hm,h1,AC];have cJ:finish C fn (C.dR f) args s=ac (r,outs):=by{unfold finish;simp only at h3 h6;rw[h3,h6];simp only[h4,if_true];rw[<-h5];congr 2;cases vs with|nil=>(rfl)|cons a l=>cases l<;>rfl};rcases h2 with h2|h2;·{simp only at h2;subst h2;exact cJ};·simp only at h2;subst h2;exact cJ
end
/-! ### Loops -/
def cF.go{b9 ρ ρ':Type}(kb:b9->Option ρ)(BA:ρ'->Option ρ):cF b9 ρ'->Option ρ| .dh x=>kb x| .ret r=>BA r
section
variable{C:aH}{f:FuncId}{call:gB}{S:ai}{Q:Exit×ai->Prop}{c:Code}{σ b9 ρ ρ':Type}{r:ρ}{k:Nat}{o:Option (Bool×List Nat)}{rep:σ->ai}[mA]
def vI(o:Option (Bool×List Nat))(rep:σ->ai)(Rel:b9->Exit×ai->Prop)(y:cM σ b9)(x:Exit×ai):Prop:=match y with| .next s'=>x.1= .normal∧fD o x.2=ac (rep s')| .out v=>x.1≠ .normal∧Rel v x
def wz(C:aH)(f:FuncId)(c:Code):Option (Bool×List Nat):=match nW c with|some i=>ac (C.shr f i,C.live f i)|none=>ac (ci,[])
theorem Ta{step:σ->Option (cM σ b9)}(Rel:b9->Exit×ai->Prop){fX:σ}{v:b9}(hL:Loop step fX=ac v)(h0:fD (wz C f c) S=ac (rep fX))
  (body:∀s y,step s=ac y->W C f call c (rep s) (vI (wz C f c) rep Rel y)):∃x,cT C f call lH (.loop c) S=ac x∧Rel v x:=by
 obtain⟨m,hm⟩:=Jg hL
 have key:∀(b:Bool)(slots:List Nat),wz C f c=ac (b,slots)->(match nW c with|some i=>C.live f i|none=>[])=slots->(match nW c with|some i=>C.shr f i|none=>ci)=b->∃x,cT C f call lH (.loop c) S=ac x∧Rel v x:=by
  intro b slots hk hs hb
  rw[hk]at h0 body
  cases b with
  |true=>
   have key:∀m s,LoopN step m s=ac v->∃x,lH ai (λS'=>cT C f call lH c S') (λS'=>norm S' slots) (rep s)=ac x∧Rel v x:=by
    intro m
    induction m with
    |zero=>intro s h;simp[LoopN]at h
    |succ m ih=>
     intro s h
     simp only[LoopN,Hc]at h
     obtain⟨y,h1,h2⟩:=h
     obtain⟨⟨e,S'⟩,h3,h4⟩:=body s y h1
     rw[Tb]
     simp only[h3,AC]
     cases y with
     |next s'=>
      obtain⟨rfl,h5⟩:=h4
      have h5:norm S' slots=ac (rep s'):=h5
      simp only[h5,AC]
      exact ih s' h2
     |out o'=>
      obtain⟨h5,h6⟩:=h4
      obtain rfl:o'=v:=by simpa using h2
      cases e with
      |normal=>exact absurd rfl h5
      |_=>exact⟨_,rfl,h6⟩
   obtain⟨x,h3,h4⟩:=key m fX hm
   refine⟨x, ?_,h4⟩
   subst hs
   simp only[cT]
   refine(if_pos hb).trans ?_
   exact(congrArg (Sp · _) (show norm S _=ac (rep fX)from h0)).trans h3
  |false=>
   have h0:(j4 S slots).map (bp S.n slots)=ac (rep fX):=h0
   obtain⟨amu,ad3,ad4⟩:=Option.map_eq_some_iff.1 h0
   have hn:∀s,(∃xy,bp S.n slots xy=rep s)->(rep s).n=S.n:=λs⟨xy,h⟩=>by rw[<-h,BF]
   have key:∀m s xy,bp S.n slots xy=rep s->LoopN step m s=ac v->∃x,lH (List U) (λcw=>cT C f call lH c (bp S.n slots cw)) (λS'=>j4 S' slots) xy=ac x∧Rel v x:=by
    intro m
    induction m with
    |zero=>intro s xy _ h;simp[LoopN]at h
    |succ m ih=>
     intro s xy Sr h
     simp only[LoopN,Hc]at h
     obtain⟨y,h1,h2⟩:=h
     obtain⟨⟨e,S'⟩,h3,h4⟩:=body s y h1
     rw[Tb]
     simp only[Sr,h3,AC]
     cases y with
     |next s'=>
      obtain⟨rfl,h5⟩:=h4
      have h5:(j4 S' slots).map (bp S'.n slots)=ac (rep s'):=h5
      obtain⟨amt,KV,Hg⟩:=Option.map_eq_some_iff.1 h5
      have DS:S'.n=S.n:=by rw[Q9 Ez _ _ _ h3];exact hn s ⟨xy,Sr⟩
      rw[DS]at Hg
      simp only[KV,AC]
      exact ih s' amt Hg h2
     |out o'=>
      obtain⟨h5,h6⟩:=h4
      obtain rfl:o'=v:=by simpa using h2
      cases e with
      |normal=>exact absurd rfl h5
      |_=>exact⟨_,rfl,h6⟩
   obtain⟨x,h3,h4⟩:=key m fX amu ad4 hm
   refine⟨x, ?_,h4⟩
   subst hs
   simp only[cT]
   refine(if_neg λe=>PP (hb.symm.trans e)).trans ?_
   exact(congrArg (Sp · _) ad3).trans h3
 unfold wz at key
 split at key
 ·exact key _ _ rfl rfl rfl
 ·exact key _ _ rfl rfl rfl
def Gi(C:aH)(f:FuncId)(k:Nat)(lS:b9->ai)(v:b9)(x:Exit×ai):Prop:=x.1= .exit k∧fD (C.p9 f k) x.2=ac (lS v)
def C0(C:aH)(f:FuncId)(k:Nat)(lS:b9->ai)(R:ρ'->Exit×ai->Prop):cF b9 ρ'->Exit×ai->Prop| .dh v,x=>Gi C f k lS v x| .ret r,x=>R r x
theorem cq{step:σ->Option (cM σ b9)}{fX:σ}{vD:b9->Option ρ}(rep:σ->ai)(lS:b9->ai)(hF:(Loop step fX).bind vD=ac r)(h0:fD (wz C f c) S=ac (rep fX))(body:∀s y,step s=ac y->W C f call c (rep s) (vI (wz C f c) rep (Gi C f k lS) y))(post:∀v,vD v=ac r->Q (.normal,lS v)):W C f call (.block k (.loop c)) S Q:=by obtain⟨v,h1,h2⟩:=GG hF;obtain⟨⟨e,S'⟩,h3,rfl,h5⟩:=Ta (Gi C f k lS) h1 h0 body;exact bt ⟨_,h3,UB h5 (post v h2)⟩
theorem jK{step:σ->Option (cM σ (cF b9 ρ'))}{fX:σ}{kb:b9->Option ρ}{BA:ρ'->Option ρ}(rep:σ->ai)(lS:b9->ai)(R:ρ'->Exit×ai->Prop)(hF:(Loop step fX).bind (cF.go kb BA)=ac r)(h0:fD (wz C f c) S=ac (rep fX))(body:∀s y,step s=ac y->W C f call c (rep s) (vI (wz C f c) rep (C0 C f k lS R) y))(post:∀v,kb v=ac r->Q (.normal,lS v))(sK:∀v,BA v=ac r->∀x,R v x->pZ C f k Q x):W C f call (.block k (.loop c)) S Q:=by obtain⟨v,h1,h2⟩:=GG hF;obtain⟨x,h3,h4⟩:=Ta (C0 C f k lS R) h1 h0 body;cases v with|dh v=>(obtain⟨e,S'⟩:=x;obtain⟨rfl,h5⟩:=h4;exact bt ⟨_,h3,UB h5 (post v h2)⟩)|ret v=>exact bt ⟨_,h3,sK v h2 _ h4⟩
variable{Rel:b9->Exit×ai->Prop}{lS:b9->ai}{R:ρ'->Exit×ai->Prop}
theorem ln{s':σ}{y:cM σ b9}(hy:ac (cM.next s')=ac y)(hc:fD o S=ac (rep s')):vI o rep Rel y (.normal,S):=by cases hy;exact⟨rfl,hc⟩
theorem lx{v:b9}{y:cM σ b9}(hy:ac (cM.out v)=ac y)(hc:fD (C.p9 f k) S=ac (lS v)):vI o rep (Gi C f k lS) y (.exit k,S):=by cases hy;exact⟨by simp,rfl,hc⟩
theorem kZ{v:b9}{y:cM σ (cF b9 ρ')}(hy:ac (cM.out (cF.dh v))=ac y)(hc:fD (C.p9 f k) S=ac (lS v)):vI o rep (C0 C f k lS R) y (.exit k,S):=by cases hy;exact⟨by simp,rfl,hc⟩
theorem lr{v:ρ'}{y:cM σ (cF b9 ρ')}(hy:ac (cM.out (cF.ret v))=ac y)(h:R v (.ret,S)):vI o rep (C0 C f k lS R) y (.ret,S):=by cases hy;exact⟨by simp,h⟩
theorem lrr{v:ρ'}{y:cM σ (cF b9 ρ')}{x:Exit×ai}(hy:ac (cM.out (cF.ret v))=ac y)(hx:x.1≠ .normal)(h:R v x):vI o rep (C0 C f k lS R) y x:=by cases hy;exact⟨hx,h⟩
end
theorem inj{α:Type}{a b:α}(h:ac a=ac b):a=b:=Ix h
open Go
/-! ### Operations -/
section
variable{C:aH}{f:FuncId}{call:gB}{S:ai}{g:Bool}
variable{d:Nat}{ty:TypeId}{pos:String}{bl:Array Edge}{bS:Option (Nat×Bool)}{v v':U}
variable{x y z:Operand}{k:IntKind}{a b:Int}{T dW:TypeId}
end
/-! ### At a function's end -/
section
variable{C:aH}{S:ai}{rv:List ResultVar}{dR:List Nat}{vs outs:List U}{ids is:List Id}{r:U}
theorem cj(h:lT C S rv=ac ([r],ids):=by exact NO)(hp:kE S.h S.t dR=ac (outs,is):=by exact Iw)(hn:eB (ids++is)=true:=by exact rfl):Fin C rv dR r outs (.ret,S):=⟨.inl rfl,[r],ids,is,h,hp,hn,rfl⟩
theorem cO{a b:U}(h:lT C S rv=ac (a::b::vs,ids):=by exact NO)(hp:kE S.h S.t dR=ac (outs,is):=by exact Iw)(hn:eB (ids++is)=true:=by exact rfl):Fin C rv dR (.aC (a::b::vs)) outs (.ret,S):=⟨.inl rfl,_,ids,is,h,hp,hn,rfl⟩
end
end Go.Ab
