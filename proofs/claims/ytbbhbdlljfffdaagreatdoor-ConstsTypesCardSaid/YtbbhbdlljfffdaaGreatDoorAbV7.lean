import Derived.Test.YtbbhbdlljfffdaaGreatDoorAbIn
open Bool renaming false_eq_true->GE,and_eq_true->GT,noConfusion->Pi,and_self->QP,false_and->RK
open Classical renaming choose_spec->PH
open List renaming all_eq_true->Hk,map_cons->Hm,replicate->Hn,drop_zero->H0,nil_append->H2,map_nil->H3,length_map->H4,foldl->H5,take_of_length_le->IH,length_drop->If,all_map->Ix,map_take->Kd,isEmpty_cons->PP,all_cons->PQ,length_take->QQ,length_set->QR,length_cons->R0,getElem?_cons_zero->T1,map_append->T2
open Nat renaming blt->Do,ble->Ha,le_of_ble_eq_true->Hc,ble_eq_true_of_le->Sp
open Option renaming bind_some->AC,map_some->Hb,bind_eq_some_iff->Hd,map_eq_some_iff->Ps,bind->UV
open Option.some renaming injEq->H1,inj->Lk
set_option linter.all false
namespace Go.Ab
open Go
abbrev fZ:=FuncId->List U->Option (U×List U)
abbrev aL(n:Int):Int:=IntKind.i64.wrap n
def idx{α:Type}(l:List α)(i:Int):Option α:=if 0<=i then l[i.toNat]? else none
theorem Dx{α β:Type}{c:α->β}{l:List α}{i:Int}{x:α}(h:idx l i=some x):idx (l.map c) i=some (c x):=by unfold idx at*;split at h;·{rw[if_pos ‹_›];simp[h]};·cases h
theorem gE{α:Type}{l:List α}{i:Int}{x:α}(h:idx l i=some x):l[i.toNat]? =some x:=by unfold idx at h;split at h;·{exact h};·cases h
theorem AB{α:Type}{l:List α}{i:Int}{x:α}(h:idx l i=some x):0<=i∧i<(l.length:Nat):=by unfold idx at h;split at h;·{rename_i hp;refine⟨hp, ?_⟩;rcases Nat.lt_or_ge i.toNat l.length with h'|h';·{omega};·rw[List.getElem?_eq_none h']at h;cases h};·cases h
theorem FB{α β:Type}{o:Option α}{k:α->Option β}{r:β}(h:o.bind k=some r):∃x,o=some x∧k x=some r:=Option.bind_eq_some_iff.1 h
theorem bb{α β:Type}{o:Option α}{k:α->Option β}{r:β}{G:Prop}(h:o.bind k=some r)(g:∀x,o=some x->k x=some r->G):G:=by obtain⟨x,h1,h2⟩:=FB h;exact g x h1 h2
def W(C:aF)(f:FuncId)(call:fZ)(c:Code)(S:ah)(Q:Exit×ah->Prop):Prop:=∃x,cm C f call j4 c S=some x∧Q x
theorem ar{P:Prop}(h:P:=by exact rfl):P:=h
def dH(C:aF)(f:FuncId)(call:fZ)(ops:Array Oper)(i:Nat)(l:List Oper)(ks:List iV)(S:ah)(Q:List iV->ah->Prop):Prop:=∃x,mF C f call ops i l S=some x∧Q (ks++x.2) x.1
/-! ### Loops -/
inductive cE(σ bI:Type)where|next(s:σ)|out(x:bI)
inductive cD(bI ρ:Type)where|c6(x:bI)|ret(r:ρ)
def LoopN{σ bI:Type}(step:σ->Option (cE σ bI)):Nat->σ->Option bI|0,_=>none|m+1,s=>(step s).bind fun y=>match y with| .next s'=>LoopN step m s'| .out x=>some x
open Classical in noncomputable def BR{σ bI:Type}(step:σ->Option (cE σ bI))(s:σ):Option bI:=if h:∃x m,LoopN step m s=some x then some (Classical.choose h)else none
theorem IL{σ bI:Type}{step:σ->Option (cE σ bI)}:∀{m:Nat}{s:σ}{x:bI}(k:Nat),LoopN step m s=some x->LoopN step (m+k) s=some x|0,_,_,_,h=>by{simp[LoopN]at h}|m+1,s,x,k,h=>by rw[Nat.add_right_comm];simp only[LoopN,Hd]at h|-;obtain⟨y,h1,h2⟩:=h;refine⟨y,h1, ?_⟩;cases y with|next s'=>(exact IL k h2)|out x=>exact h2
theorem Wh{σ bI:Type}{step:σ->Option (cE σ bI)}{m m':Nat}{s:σ}{x y:bI}(h1:LoopN step m s=some x)(h2:LoopN step m' s=some y):x=y:=by have e1:=IL m' h1;have e2:=IL m h2;rw[Nat.add_comm]at e2;rw[e1]at e2;exact Lk e2
theorem Wg{σ bI:Type}{step:σ->Option (cE σ bI)}{s:σ}{x:bI}(h:BR step s=some x):∃m,LoopN step m s=some x:=by unfold BR at h;split at h;·{rename_i hx;simp only[H1]at h;subst h;exact PH hx};·cases h
class mB where
 bP:∀{σ bI:Type},(σ->Option (cE σ bI))->σ->Option bI
 ok:∀{σ bI:Type}{step:σ->Option (cE σ bI)}{s:σ}{x:bI},bP step s=some x->∃m,LoopN step m s=some x
noncomputable instance agY:mB:=⟨BR,Wg⟩
@[reducible]def Tm:mB:=⟨fun step s=>LoopN step 100000 s,fun h=>⟨100000,h⟩⟩
def Loop [mB]{σ bI:Type}(step:σ->Option (cE σ bI))(s:σ):Option bI:=mB.bP step s
theorem IM [mB]{σ bI:Type}{step:σ->Option (cE σ bI)}{s:σ}{x:bI}(h:Loop step s=some x):∃m,LoopN step m s=some x:=mB.ok h
theorem IN{σ bI:Type}{step:σ->Option (cE σ bI)}{m:Nat}{s:σ}{x:bI}(h:LoopN step m s=some x):Loop step s=some x:=by show BR step s=some x;unfold BR;have hx:∃x m,LoopN step m s=some x:=⟨x,m,h⟩;rw[dif_pos hx];obtain⟨m',h'⟩:=PH hx;rw[Wh h' h]
theorem fE{σ bI:Type}(step:σ->Option (cE σ bI))(s:σ):Loop step s=(step s).bind fun y=>match y with| .next s'=>Loop step s'| .out x=>some x:=by apply Option.ext;intro x;constructor;·{intro h;obtain⟨m,h⟩:=IM h;cases m with|zero=>(simp[LoopN]at h)|succ m=>simp only[LoopN,Hd]at h|-;obtain⟨y,h1,h2⟩:=h;refine⟨y,h1, ?_⟩;cases y with|next s'=>(exact IN h2)|out x=>exact h2};·intro h;simp only[Hd]at h;obtain⟨y,h1,h2⟩:=h;cases y with|next s'=>(obtain⟨m,h3⟩:=IM h2;exact IN (m:=m+1) (by simp only[LoopN,h1,AC,h3]))|out x=>exact IN (m:=1) (by simp only[LoopN,h1,AC];exact h2)
section
variable{C:aF}{f:FuncId}{call:fZ}{S:ah}{n:Nat}{t:Nat->U}{h:Id->Option (Option Rows)}
variable{Q:Exit×ah->Prop}{a b c:Code}{ρ:Type}{r:ρ}{l:List Oper}{id k:Nat}
/-! ### Code -/
def E9(C:aF)(f:FuncId)(call:fZ)(b:Code)(Q:Exit×ah->Prop)(x:Exit×ah):Prop:=match x.1 with| .normal=>∃S',dr (ij C f b) x.2=some S'∧W C f call b S' Q|_=>Q x
theorem sq(h:W C f call a S (E9 C f call b Q)):W C f call (.seq a b) S Q:=by obtain⟨⟨e,s⟩,h1,h2⟩:=h;cases e with|normal=>(obtain⟨S',h5,y,h3,h4⟩:=h2;exact⟨y,by simp only[cm,h1,AC,h5,h3],h4⟩)|_=>exact⟨_,by simp only[cm,h1,AC],h2⟩
theorem aK(h:W C f call b S Q)(hk:ij C f b=none:=by exact rfl):E9 C f call b Q (.normal,S):=⟨S,by rw[hk];rfl,h⟩
theorem aE(h:Q (.ret,S)):E9 C f call b Q (.ret,S):=h
theorem fQ(h:Q (.exit k,S)):E9 C f call b Q (.exit k,S):=h
theorem cd{x:Operand}{p:Bool}{A B:Option ρ}(hF:(if p=true then A else B)=some r)(h1:A=some r->W C f call a S Q)(h2:B=some r->W C f call b S Q)(hc:un true (S.get C x)= .val (.bool p):=by exact rfl):W C f call (.cond x a b) S Q:=by cases p with|true=>(obtain⟨y,h3,h4⟩:=h1 (by simpa using hF);exact⟨y,by simp only[cm,hc];simpa using h3,h4⟩)|false=>obtain⟨y,h3,h4⟩:=h2 (by simpa using hF);exact⟨y,by simp only[cm,hc];simpa using h3,h4⟩
theorem aan{x:Operand}(h1:W C f call a S Q)(hc:un true (S.get C x)= .val (.bool true):=by exact rfl):W C f call (.cond x a b) S Q:=by obtain⟨y,h3,h4⟩:=h1;exact⟨y,by simp only[cm,hc];simpa using h3,h4⟩
theorem aam{x:Operand}(h1:W C f call b S Q)(hc:un true (S.get C x)= .val (.bool false):=by exact rfl):W C f call (.cond x a b) S Q:=by obtain⟨y,h3,h4⟩:=h1;exact⟨y,by simp only[cm,hc];simpa using h3,h4⟩
theorem sk(h:Q (.normal,S)):W C f call .skip S Q:=⟨_,rfl,h⟩
theorem rt(h:Q (.ret,S)):W C f call .ret S Q:=⟨_,rfl,h⟩
theorem ex(h:Q (.exit k,S)):W C f call (.exit k) S Q:=⟨_,rfl,h⟩
def qK(C:aF)(f:FuncId)(k:Nat)(Q:Exit×ah->Prop)(x:Exit×ah):Prop:=match x.1 with| .normal=>∃S',dr (C.pW f k) x.2=some S'∧Q (.normal,S')| .exit j=>if j=k then∃S',dr (C.pW f k) x.2=some S'∧Q (.normal,S')else Q (.exit j,x.2)|_=>Q x
theorem cq(h:W C f call c S (qK C f k Q)):W C f call (.block k c) S Q:=by obtain⟨⟨e,s⟩,h1,h2⟩:=h;cases e with|normal=>(obtain⟨S',h3,h4⟩:=h2;exact⟨_,by simp only[cm,h1,AC,h3,Hb],h4⟩)|exit j=>(simp only[qK]at h2;split at h2;·{rename_i hj;obtain⟨S',h3,h4⟩:=h2;exact⟨_,by simp only[cm,h1,AC,hj,if_true,h3,Hb],h4⟩};·rename_i hj;exact⟨_,by simp only[cm,h1,AC,hj,if_false],h2⟩)|_=>exact⟨_,by simp only[cm,h1,AC],h2⟩
theorem aT(h:Q (.normal,S))(hk:C.pW f k=none:=by exact rfl):qK C f k Q (.normal,S):=⟨S,by rw[hk];rfl,h⟩
theorem aJ(h:Q (.ret,S)):qK C f k Q (.ret,S):=h
theorem H6(h:Q (.normal,S))(hk:C.pW f k=none:=by exact rfl):qK C f k Q (.exit k,S):=by simp only[qK,if_true];exact⟨S,by rw[hk];rfl,h⟩
theorem aj2{j:Nat}(h:Q (.exit j,S))(hj:Nat.beq j k=false:=by exact rfl):qK C f k Q (.exit j,S):=by have:j≠k:=fun e=>by{subst e;simp at hj};simpa[qK,this]using h
/-! ### Places where the state is told anew -/
theorem Uv{S':ah}(hc:dr (C.pW f k) S=some S')(h:Q (.normal,S')):qK C f k Q (.exit k,S):=by simp only[qK,if_true];exact⟨S',hc,h⟩
def E7(σ:Type)(o:Option (Bool×List Nat))(rep:σ->ah)(pN:σ->Option ρ)(r:ρ)(Q:Exit×ah->Prop)(x:Exit×ah):Prop:=match x.1 with| .normal=>∃s,dr o x.2=some (rep s)∧pN s=some r|_=>Q x
theorem eS{σ:Type}(rep:σ->ah)(pN:σ->Option ρ)(ha:W C f call a S (E7 σ (ij C f b) rep pN r Q))(hk:∀s,pN s=some r->W C f call b (rep s) Q):W C f call (.seq a b) S Q:=by refine sq ?_;obtain⟨⟨e,s⟩,h1,h2⟩:=ha;refine⟨_,h1, ?_⟩;cases e with|normal=>(obtain⟨s,h3,h4⟩:=h2;exact⟨_,h3,hk s h4⟩)|_=>exact h2
theorem bq{σ:Type}{o:Option (Bool×List Nat)}{rep:σ->ah}{pN:σ->Option ρ}(s:σ)(hF:pN s=some r)(hc:dr o S=some (rep s)):E7 σ o rep pN r Q (.normal,S):=⟨s,hc,hF⟩
theorem jD{σ:Type}{o:Option (Bool×List Nat)}{rep:σ->ah}{pN:σ->Option ρ}(h:Q (.ret,S)):E7 σ o rep pN r Q (.ret,S):=h
theorem aj5{σ:Type}{o:Option (Bool×List Nat)}{rep:σ->ah}{pN:σ->Option ρ}(h:Q (.exit k,S)):E7 σ o rep pN r Q (.exit k,S):=h
section
variable{σ:Type}{rep:σ->ah}{pN:σ->Option ρ}
end
/-! ### Regions -/
section
variable{K:List iV->ah->Prop}{ops:Array Oper}{i:Nat}{ks:List iV}
def s7(C:aF)(f:FuncId)(call:fZ)(id:Nat)(ops:Array Oper)(draw:Bool)(S:ah)(Q:Exit×ah->Prop):Prop:=∃S',(p5 C f call id ops draw S).bind (pX C f id)=some S'∧Q (.normal,S')
def wI(C:aF)(f:FuncId)(id:Nat)(P:ah->Prop)(ks:List iV)(S:ah):Prop:=oX (C.iu f id) ks=true∧P S
def wE(l:List Nat)(K:ah->Prop)(S:ah):Prop:=∃S',lf l S=some S'∧K S'
def nR(p:Nat)(lo ym:List Nat)(K:ah->Prop)(S:ah):Prop:=∃S',mV p lo S=some S'∧wE ym K S'
theorem w0{ops:Array Oper}{qQ:Bool}(h:s7 C f call id ops qQ S Q)(ha:C.lY f id=[]:=by exact rfl):W C f call (.region id ops qQ) S Q:=by obtain⟨S',h1,h2⟩:=h;exact⟨_,by simp[cm,ha,lf,h1],h2⟩
theorem al5{ops:Array Oper}{qQ:Bool}(h:wE (C.lY f id) (fun fT=>s7 C f call id ops qQ fT Q) S):W C f call (.region id ops qQ) S Q:=by obtain⟨fT,h0,S',h1,h2⟩:=h;exact⟨_,by simp[cm,h0,h1],h2⟩
theorem fe{ops:Array Oper}{qQ:Bool}(h:s7 C f call id ops qQ S fun x=>W C f call b x.2 Q)(ha:C.lY f id=[])(hk2:ij C f b=none):W C f call (.seq (.region id ops qQ) b) S Q:=sq (w0 (by obtain⟨S',h1,h2⟩:=h;exact⟨S',h1,aK h2 hk2⟩) ha)
theorem akO{ops:Array Oper}{qQ:Bool}(h:wE (C.lY f id) (fun fT=>s7 C f call id ops qQ fT fun x=>W C f call b x.2 Q) S)(hk2:ij C f b=none:=by exact rfl):W C f call (.seq (.region id ops qQ) b) S Q:=sq (al5 (by obtain⟨fT,h0,S',h1,h2⟩:=h;exact⟨fT,h0,S',h1,aK h2 hk2⟩))
theorem PU(h:dH C f call ⟨l⟩ 0 l [] S fun _ S'=>Q (.normal,S'))(hk:C.jv f id=none:=by exact rfl)(hz:C.kB f id=[]:=by exact rfl)(ho:C.jk f id=[]:=by exact rfl):s7 C f call id ⟨l⟩ false S Q:=by obtain⟨x,h1,h2⟩:=h;exact⟨_,by simp[p5,h1,hk,dr,pX,hz,ho,lf,mV],h2⟩
theorem PW(h:dH C f call ⟨l⟩ 0 l [] S (wI C f id fun S'=>Q (.normal,S')))(hk:C.jv f id=none:=by exact rfl)(hz:C.kB f id=[]:=by exact rfl)(ho:C.jk f id=[]:=by exact rfl):s7 C f call id ⟨l⟩ true S Q:=by obtain⟨x,h1,h2,h3⟩:=h;simp only[H2]at h2;exact⟨_,by simp[p5,h1,h2,hk,dr,pX,hz,ho,lf,mV],h3⟩
theorem JF(h:dH C f call ⟨l⟩ 0 l [] S fun _ S'=>nR (1000+id) (C.jk f id) (C.kB f id) (fun cU=>Q (.normal,cU)) S')(hk:C.jv f id=none:=by exact rfl):s7 C f call id ⟨l⟩ false S Q:=by obtain⟨x,h1,bx,h0,cU,h2,h3⟩:=h;exact⟨_,by simp[p5,h1,hk,dr,pX,h0,h2],h3⟩
theorem PY(h:dH C f call ⟨l⟩ 0 l [] S (wI C f id fun S'=>nR (1000+id) (C.jk f id) (C.kB f id) (fun cU=>Q (.normal,cU)) S'))(hk:C.jv f id=none:=by exact rfl):s7 C f call id ⟨l⟩ true S Q:=by obtain⟨x,h1,h4,bx,h0,cU,h2,h3⟩:=h;simp only[H2]at h4;exact⟨_,by simp[p5,h1,h4,hk,dr,pX,h0,h2],h3⟩
theorem rg(h:dH C f call ⟨l⟩ 0 l [] S fun _ S'=>Q (.normal,S'))(hk:C.jv f id=none:=by exact rfl)(hz:C.kB f id=[]:=by exact rfl)(ho:C.jk f id=[]:=by exact rfl)(ha:C.lY f id=[]:=by exact rfl):W C f call (.region id ⟨l⟩ false) S Q:=w0 (PU h hk hz ho) ha
theorem Ek(h:dH C f call ⟨l⟩ 0 l [] S (wI C f id fun S'=>Q (.normal,S')))(hk:C.jv f id=none:=by exact rfl)(hz:C.kB f id=[]:=by exact rfl)(ho:C.jk f id=[]:=by exact rfl)(ha:C.lY f id=[]:=by exact rfl):W C f call (.region id ⟨l⟩ true) S Q:=w0 (PW h hk hz ho) ha
theorem ag(h:dH C f call ⟨l⟩ 0 l [] S fun _ S'=>W C f call b S' Q)(hk:C.jv f id=none:=by exact rfl)(hz:C.kB f id=[]:=by exact rfl)(ho:C.jk f id=[]:=by exact rfl)(ha:C.lY f id=[]:=by exact rfl)(hk2:ij C f b=none:=by exact rfl):W C f call (.seq (.region id ⟨l⟩ false) b) S Q:=fe (PU h hk hz ho) ha hk2
theorem fM(h:dH C f call ⟨l⟩ 0 l [] S (wI C f id fun S'=>W C f call b S' Q))(hk:C.jv f id=none:=by exact rfl)(hz:C.kB f id=[]:=by exact rfl)(ho:C.jk f id=[]:=by exact rfl)(ha:C.lY f id=[]:=by exact rfl)(hk2:ij C f b=none:=by exact rfl):W C f call (.seq (.region id ⟨l⟩ true) b) S Q:=fe (PW h hk hz ho) ha hk2
theorem Bd(h:dH C f call ⟨l⟩ 0 l [] S fun _ S'=>nR (1000+id) (C.jk f id) (C.kB f id) (fun cU=>Q (.normal,cU)) S')(hk:C.jv f id=none:=by exact rfl)(ha:C.lY f id=[]:=by exact rfl):W C f call (.region id ⟨l⟩ false) S Q:=w0 (JF h hk) ha
theorem Nd(h:dH C f call ⟨l⟩ 0 l [] S (wI C f id fun S'=>nR (1000+id) (C.jk f id) (C.kB f id) (fun cU=>Q (.normal,cU)) S'))(hk:C.jv f id=none:=by exact rfl)(ha:C.lY f id=[]:=by exact rfl):W C f call (.region id ⟨l⟩ true) S Q:=w0 (PY h hk) ha
theorem eF(h:dH C f call ⟨l⟩ 0 l [] S fun _ S'=>nR (1000+id) (C.jk f id) (C.kB f id) (fun cU=>W C f call b cU Q) S')(hk:C.jv f id=none:=by exact rfl)(ha:C.lY f id=[]:=by exact rfl)(hk2:ij C f b=none:=by exact rfl):W C f call (.seq (.region id ⟨l⟩ false) b) S Q:=fe (JF h hk) ha hk2
theorem rA(h:dH C f call ⟨l⟩ 0 l [] S (wI C f id fun S'=>nR (1000+id) (C.jk f id) (C.kB f id) (fun cU=>W C f call b cU Q) S'))(hk:C.jv f id=none:=by exact rfl)(ha:C.lY f id=[]:=by exact rfl)(hk2:ij C f b=none:=by exact rfl):W C f call (.seq (.region id ⟨l⟩ true) b) S Q:=fe (PY h hk) ha hk2
theorem bY{p:Nat}{K:ah->Prop}{lo ym:List Nat}(k:wE ym K S)(hl:lo=[]:=by exact rfl):nR p lo ym K S:=by subst hl;exact⟨_,rfl,k⟩
theorem cj{p:Nat}{K:ah->Prop}{S':ah}{lo ym:List Nat}(s:Nat)(sl:List Nat)(he:um p S s=some S')(k:nR p sl ym K S')(hl:lo=s::sl:=by exact rfl):nR p lo ym K S:=by subst hl;obtain⟨cU,h1,h2⟩:=k;exact⟨cU,by simp only[mV,he,AC];exact h1,h2⟩
theorem aiW{p s row off:Nat}{id:Id}{r r':List U}{x:Id×Option Rows}{wr:List (Id×Option Rows)}(hs:t s= .mp id row off)(hid:h id=some (some [r]))(hu:bJ [p,s] 0 r=(r',x::wr))(Lo:Do s n=true)(hf:fresh h (x::wr)=true):um p ⟨n,t,h⟩ s=some ⟨n,t,aZ h ((id,some [r'])::x::wr)⟩:=by have hs':s<n:=of_decide_eq_true (by simp[Do]at Lo|-;omega);simp only[um,hs,hid,hu,PP,GE,if_false];rw[if_pos ⟨hs',hf⟩]
theorem bW{K:ah->Prop}{l:List Nat}(k:K S)(hl:l=[]:=by exact rfl):wE l K S:=by subst hl;exact⟨_,rfl,k⟩
theorem J9{s:Nat}{id:Id}{cells:List U}(hs:t s= .mp id 0 0:=by exact rfl)(hid:h id=some (some [cells]):=by exact rfl)(hi:dZ cells=true:=by exact rfl):p9 ⟨n,t,h⟩ s=some ⟨n,aj t s (.ay cells),aj h id (some none)⟩:=by simp only[p9,hs,hid,hi,if_true]
theorem Gl{K:ah->Prop}{S':ah}{l:List Nat}(s:Nat)(sl:List Nat)(he:p9 S s=some S')(k:wE sl K S')(hl:l=s::sl:=by exact rfl):wE l K S:=by subst hl;obtain⟨cU,h1,h2⟩:=k;exact⟨cU,by simp only[lf,he,AC];exact h1,h2⟩
theorem nl(h:K ks S):dH C f call ops i [] ks S K:=⟨_,rfl,by simpa using h⟩
def pg(ks:List iV):Bool:=ks.all fun k=>k.2.2.isEmpty
theorem q3(iu:List (Nat×Nat)):∀ks:List iV,pg ks=true->oX iu ks=true|[],_=>rfl|x::l,hk=>by simp only[pg,PQ,GT]at hk;have h1:=q3 iu l hk.2;simp only[oX,h1,Bool.and_true,Hk,Bool.or_eq_true];intro y hy;right;have h2:=List.all_eq_true.1 hk.2 y hy;simp only[List.isEmpty_iff]at hk h2;simp[tu,hk.1,h2]
theorem akz{a b:List iV}(h:pg a=true)(k:pg b=true):pg (a++b)=true:=by simp only[pg,List.all_append,GT]at*;exact⟨h,k⟩
theorem El{iu:List (Nat×Nat)}{ks:List iV}(h:pg ks=true:=by repeat'(first|apply akz|assumption|exact rfl)):oX iu ks=true:=q3 iu ks h
theorem A7(a b:List iV):pg (a++b)=(pg a&&pg b):=by simp[pg]
theorem dz{P:ah->Prop}(h:P S)(hf:oX (C.iu f id) ks=true:=by first|exact rfl|exact q3 _ _ rfl|(apply q3;simp[A7, *];done)|(apply q3;simp only[A7,Bool.and_eq_true];(repeat' constructor)<;>first|assumption|rfl)):dH C f call ops i [] ks S (wI C f id P):=⟨_,rfl,by simpa using hf,h⟩
def wH(σ:Type)(C:aF)(f:FuncId)(id:Nat)(draw:Bool)(rep:σ->ah)(x:σ)(ks:List iV)(S:ah):Prop:=(draw=true->oX (C.iu f id) ks=true)∧nR (1000+id) (C.jk f id) (C.kB f id) (fun cU=>dr (C.jv f id) cU=some (rep x)) S
theorem PV{σ:Type}{draw:Bool}{A:Option σ}{qG:σ->Option ρ}(rep:σ->ah)(hF:A.bind qG=some r)(k1:∀x,A=some x->dH C f call ⟨l⟩ 0 l [] S (wH σ C f id draw rep x))(k2:∀x,qG x=some r->Q (.normal,rep x)):s7 C f call id ⟨l⟩ draw S Q:=by obtain⟨x,h1,h2⟩:=FB hF;obtain⟨y,h3,h4,bx,h5,cU,h6,h7⟩:=k1 x h1;simp only[H2]at h4;refine⟨rep x, ?_,k2 x h2⟩;simp only[p5,h3,AC];cases draw with|false=>(simp[pX,h5,h6,h7])|true=>simp[h4 rfl,pX,h5,h6,h7]
theorem Nc{σ:Type}{draw:Bool}{A:Option σ}{qG:σ->Option ρ}(rep:σ->ah)(hF:A.bind qG=some r)(k1:∀x,A=some x->dH C f call ⟨l⟩ 0 l [] S (wH σ C f id draw rep x))(k2:∀x,qG x=some r->Q (.normal,rep x))(ha:C.lY f id=[]:=by exact rfl):W C f call (.region id ⟨l⟩ draw) S Q:=w0 (PV rep hF k1 k2) ha
theorem eA{σ:Type}{draw:Bool}{A:Option σ}{qG:σ->Option ρ}(rep:σ->ah)(hF:A.bind qG=some r)(k1:∀x,A=some x->dH C f call ⟨l⟩ 0 l [] S (wH σ C f id draw rep x))(k2:∀x,qG x=some r->W C f call b (rep x) Q)(ha:C.lY f id=[]:=by exact rfl)(hk2:ij C f b=none:=by exact rfl):W C f call (.seq (.region id ⟨l⟩ draw) b) S Q:=fe (PV rep hF k1 k2) ha hk2
theorem yq{σ:Type}{rep:σ->ah}{x:σ}(h:nR (1000+id) (C.jk f id) (C.kB f id) (fun cU=>dr (C.jv f id) cU=some (rep x)) S):dH C f call ops i [] ks S (wH σ C f id false rep x):=⟨_,rfl,And.intro (fun e=>Pi e) h⟩
theorem ahu{σ:Type}{rep:σ->ah}{x:σ}(h:nR (1000+id) (C.jk f id) (C.kB f id) (fun cU=>dr (C.jv f id) cU=some (rep x)) S)(hf:oX (C.iu f id) ks=true:=by first|exact rfl|exact q3 _ _ rfl|(apply q3;simp[A7, *];done)|(apply q3;simp only[A7,Bool.and_eq_true];(repeat' constructor)<;>first|assumption|rfl)):dH C f call ops i [] ks S (wH σ C f id true rep x):=⟨_,rfl,And.intro (fun _=>by simpa using hf) h⟩
theorem bK{σ:Type}{rep:σ->ah}{x:σ}(hc:dr (C.jv f id) S=some (rep x))(hz:C.kB f id=[]:=by exact rfl)(ho:C.jk f id=[]:=by exact rfl):dH C f call ops i [] ks S (wH σ C f id false rep x):=yq (by rw[hz,ho];exact⟨_,rfl,_,rfl,hc⟩)
theorem ug{σ:Type}{rep:σ->ah}{x:σ}(hc:dr (C.jv f id) S=some (rep x))(hf:oX (C.iu f id) ks=true:=by first|exact rfl|exact q3 _ _ rfl|(apply q3;simp[A7, *];done)|(apply q3;simp only[A7,Bool.and_eq_true];(repeat' constructor)<;>first|assumption|rfl))(hz:C.kB f id=[]:=by exact rfl)(ho:C.jk f id=[]:=by exact rfl):dH C f call ops i [] ks S (wH σ C f id true rep x):=ahu (by rw[hz,ho];exact⟨_,rfl,_,rfl,hc⟩) hf
variable{d:Nat}{ty:TypeId}{pos:String}{aQ:Array Edge}{bn:Option (Nat×Bool)}{op:Op}{v:U}{g:Bool}
theorem aeW(i:Nat)(e:bh)(l:List iV):hkey i e l=hkey i e []++l:=by unfold hkey;split<;>simp
theorem yK{o:Oper}{e:bh}(he:u5 C f call S ops o=some e)(hs:(e.dA.all fun x=>decide (x.1<S.n))=true)(k:dH C f call ops (i+1) l (ks++hkey i e []) (S.app e) K):dH C f call ops i (o::l) ks S K:=by obtain⟨x,h1,h2⟩:=k;refine⟨(x.1,hkey i e x.2), ?_, ?_⟩;·{simp only[mF,he,AC];rw[if_pos hs,h1];rfl};·rw[aeW];simpa using h2
theorem lO{d n:Nat}(h:Do d n=true):decide (d<n)=true:=by simp[Do]at h|-;omega
theorem pp(he:bk C f call ⟨n,t,h⟩ true ⟨some d,op,ty,pos,aQ,none⟩=some ⟨[(d,v)],[],[]⟩)(k:dH C f call ops (i+1) l ks ⟨n,aj t d v,h⟩ K)(hs:Do d n=true:=by exact rfl):dH C f call ops i (⟨some d,op,ty,pos,aQ,none⟩::l) ks ⟨n,t,h⟩ K:=yK (e:=⟨[(d,v)],[],[]⟩) he (by simpa using lO hs) (by simpa[hkey,ah.app]using k)
theorem rr{y:Id}{rd:List Id}(he:bk C f call ⟨n,t,h⟩ true ⟨some d,op,ty,pos,aQ,none⟩=some ⟨[(d,v)],y::rd,[]⟩)(k:dH C f call ops (i+1) l (ks++[(i,y::rd,[])]) ⟨n,aj t d v,h⟩ K)(hs:Do d n=true:=by exact rfl):dH C f call ops i (⟨some d,op,ty,pos,aQ,none⟩::l) ks ⟨n,t,h⟩ K:=yK (e:=⟨[(d,v)],y::rd,[]⟩) he (by simpa using lO hs) (by simpa[hkey,ah.app]using k)
theorem ww{vO:Option Nat}{dA:List (Nat×U)}{rd:List Id}{x:Id×Option Rows}{wr:List (Id×Option Rows)}(he:bk C f call ⟨n,t,h⟩ true ⟨vO,op,ty,pos,aQ,none⟩=some ⟨dA,rd,x::wr⟩)(k:dH C f call ops (i+1) l (ks++[(i,rd,(x::wr).map (·.1))]) ⟨n,cT t dA,aZ h (x::wr)⟩ K)(hs:(dA.all fun x=>Do x.1 n)=true:=by exact rfl):dH C f call ops i (⟨vO,op,ty,pos,aQ,none⟩::l) ks ⟨n,t,h⟩ K:=yK (e:=⟨dA,rd,x::wr⟩) he (by rw[Hk]at hs|-;exact fun y hy=>lO (hs y hy)) (by simpa[hkey,ah.app]using k)
theorem an{j:Nat}{wt:Bool}{l0:List Oper}(hg:tH wt ⟨n,t,h⟩ (p0 l0 j)=some g)(he:bk C f call ⟨n,t,h⟩ g ⟨some d,op,ty,pos,aQ,some (j,wt)⟩=some ⟨[(d,v)],[],[]⟩)(k:dH C f call ⟨l0⟩ (i+1) l ks ⟨n,aj t d (.c8 g v),h⟩ K)(hs:Do d n=true:=by exact rfl):dH C f call ⟨l0⟩ i (⟨some d,op,ty,pos,aQ,some (j,wt)⟩::l) ks ⟨n,t,h⟩ K:=yK (e:=⟨[(d, .c8 g v)],[],[]⟩) (by rw[F1,hg,FO,F3,he];rfl) (by simpa using lO hs) (by simpa[hkey,ah.app]using k)
theorem aks{j:Nat}{wt:Bool}{l0:List Oper}{y:Id}{rd:List Id}(hg:tH wt ⟨n,t,h⟩ (p0 l0 j)=some g)(he:bk C f call ⟨n,t,h⟩ g ⟨some d,op,ty,pos,aQ,some (j,wt)⟩=some ⟨[(d,v)],y::rd,[]⟩)(k:dH C f call ⟨l0⟩ (i+1) l (ks++[(i,y::rd,[])]) ⟨n,aj t d (.c8 g v),h⟩ K)(hs:Do d n=true:=by exact rfl):dH C f call ⟨l0⟩ i (⟨some d,op,ty,pos,aQ,some (j,wt)⟩::l) ks ⟨n,t,h⟩ K:=yK (e:=⟨[(d, .c8 g v)],y::rd,[]⟩) (by rw[F1,hg,FO,F3,he];rfl) (by simpa using lO hs) (by simpa[hkey,ah.app]using k)
theorem pt{j:Nat}{wt:Bool}{l0:List Oper}(hg:tH wt ⟨n,t,h⟩ (p0 l0 j)=some true)(he:bk C f call ⟨n,t,h⟩ true ⟨some d,op,ty,pos,aQ,some (j,wt)⟩=some ⟨[(d,v)],[],[]⟩)(k:dH C f call ⟨l0⟩ (i+1) l ks ⟨n,aj t d (.c8 true v),h⟩ K)(hs:Do d n=true:=by exact rfl):dH C f call ⟨l0⟩ i (⟨some d,op,ty,pos,aQ,some (j,wt)⟩::l) ks ⟨n,t,h⟩ K:=an hg he k hs
theorem Eo{j:Nat}{wt:Bool}{l0:List Oper}{y:Id}{rd:List Id}(hg:tH wt ⟨n,t,h⟩ (p0 l0 j)=some true)(he:bk C f call ⟨n,t,h⟩ true ⟨some d,op,ty,pos,aQ,some (j,wt)⟩=some ⟨[(d,v)],y::rd,[]⟩)(k:dH C f call ⟨l0⟩ (i+1) l (ks++[(i,y::rd,[])]) ⟨n,aj t d (.c8 true v),h⟩ K)(hs:Do d n=true:=by exact rfl):dH C f call ⟨l0⟩ i (⟨some d,op,ty,pos,aQ,some (j,wt)⟩::l) ks ⟨n,t,h⟩ K:=aks hg he k hs
theorem N8{j:Nat}{wt:Bool}{l0:List Oper}{dA:List (Nat×U)}{rd:List Id}{x:Id×Option Rows}{wr:List (Id×Option Rows)}{vO:Option Nat}(hg:tH wt ⟨n,t,h⟩ (p0 l0 j)=some true)(he:bk C f call ⟨n,t,h⟩ true ⟨vO,op,ty,pos,aQ,some (j,wt)⟩=some ⟨dA,rd,x::wr⟩)(k:dH C f call ⟨l0⟩ (i+1) l (ks++[(i,rd,(x::wr).map (·.1))]) ⟨n,cT t dA,aZ h (x::wr)⟩ K)(hs:(dA.all fun x=>Do x.1 n)=true:=by exact rfl):dH C f call ⟨l0⟩ i (⟨vO,op,ty,pos,aQ,some (j,wt)⟩::l) ks ⟨n,t,h⟩ K:=yK (e:=⟨dA,rd,x::wr⟩) (by rw[F1,hg,FO,F3,he];rfl) (by rw[Hk]at hs|-;exact fun y hy=>lO (hs y hy)) (by simpa[hkey,ah.app]using k)
theorem gf{wt:Bool}{d:Nat}{u:U}{vO:Option Nat}(hd:vO=some d:=by exact rfl)(h:S.t d= .c8 false u:=by exact rfl):tH wt S vO=some false:=by subst hd;rw[Rn,h];cases u with|val v=>(cases v<;>simp[z8])|_=>rfl
theorem no{d:Nat}{j:Nat}{wt:Bool}{l0:List Oper}(k:∀u ks',pg ks'=true->dH C f call ⟨l0⟩ (i+1) l (ks++ks') ⟨n,aj t d (.c8 false u),h⟩ K)(hg:tH wt ⟨n,t,h⟩ (p0 l0 j)=some false:=by first|exact gf|exact rfl)(hs:Do d n=true:=by exact rfl):dH C f call ⟨l0⟩ i (⟨some d,op,ty,pos,aQ,some (j,wt)⟩::l) ks ⟨n,t,h⟩ K:=by have hj:∀(v:U)(rd:List Id),u5 C f call ⟨n,t,h⟩ ⟨l0⟩ ⟨some d,op,ty,pos,aQ,some (j,wt)⟩=some ⟨[(d, .c8 false v)],rd,[]⟩->dH C f call ⟨l0⟩ i (⟨some d,op,ty,pos,aQ,some (j,wt)⟩::l) ks ⟨n,t,h⟩ K:=fun v rd he=>yK he (by simpa using lO hs) (by have:=k v (hkey i ⟨[(d, .c8 false v)],rd,[]⟩ []) (by unfold hkey pg;split<;>simp);simpa[ah.app,cT]using this);rw[F1,hg,FO,F3]at hj;cases he:bk C f call ⟨n,t,h⟩ false ⟨some d,op,ty,pos,aQ,some (j,wt)⟩with|none=>(exact hj .bf [] (by rw[he];rfl))|some e=>obtain⟨dA,rd,wr⟩:=e;cases wr with|cons x wr=>(exact hj .bf [] (by rw[he];rfl))|nil=>rcases Nt he with⟨v,hv⟩|⟨hv,_⟩;·{simp only[put]at hv;subst hv;exact hj v rd (by rw[he];rfl)};·exact absurd rfl hv
theorem di{A B:Option ρ}{d:Nat}{p:Bool}(hF:(if p=true then A else B)=some r)(h1:A=some r->dH C f call ops i l ks ⟨n,aj t d (.val (.bool true)),h⟩ K)(h2:B=some r->dH C f call ops i l ks ⟨n,aj t d (.val (.bool false)),h⟩ K)(hd:t d= .val (.bool p):=by exact rfl):dH C f call ops i l ks ⟨n,t,h⟩ K:=by have e:∀q,t d= .val (.bool q)->aj t d (.val (.bool q))=t:=fun q hq=>by{funext j;unfold aj;split;·{rename_i hj;subst hj;exact hq.symm};·rfl};cases p with|true=>(have:=h1 (by simpa using hF);rwa[e _ hd]at this)|false=>have:=h2 (by simpa using hF);rwa[e _ hd]at this
theorem pE{A B:Option ρ}{d:Nat}{p:Bool}(hF:(if p=true then A else B)=some r)(h1:A=some r->dH C f call ops i l ks ⟨n,aj t d (.c8 true (.val (.bool true))),h⟩ K)(h2:B=some r->dH C f call ops i l ks ⟨n,aj t d (.c8 true (.val (.bool false))),h⟩ K)(hd:t d= .c8 true (.val (.bool p)):=by exact rfl):dH C f call ops i l ks ⟨n,t,h⟩ K:=by have e:∀q,t d= .c8 true (.val (.bool q))->aj t d (.c8 true (.val (.bool q)))=t:=fun q hq=>by{funext j;unfold aj;split;·{rename_i hj;subst hj;exact hq.symm};·rfl};cases p with|true=>(have:=h1 (by simpa using hF);rwa[e _ hd]at this)|false=>have:=h2 (by simpa using hF);rwa[e _ hd]at this
end
end
open Go
theorem gA{α β:Type}(P:Program)(s:Sem α)(k:α->Sem β):cG P (s>>=k)=(cG P s).bind fun a=>cG P (k a):=by show cG P (s.bind k)=_;induction s with|pure a=>(rfl)|program k2 ih=>(simpa[Sem.bind,cG]using ih P)|_=>simp[Sem.bind,cG]
section
variable{P:Program}
theorem o9{α:Type}(a:α):cG P (pure a:Sem α)=some a:=rfl
theorem MY:cG P program=some P:=rfl
theorem ou{t:TypeId}{d:TypeDesc}(h:P.underlying t=some d):cG P (underlying t)=some d:=by unfold underlying;rw[gA,MY,AC,h];rfl
def Mp:TypeDesc->Bool| .struct _=>false| .array _ _=>false|_=>true
theorem ajV{t:TypeId}{d:TypeDesc}(h:P.underlying t=some d)(hd:Mp d=true):cG P (isAgg t)=some false:=by unfold isAgg;rw[gA,ou h,AC];cases d<;>first|rfl|cases hd
theorem Ul{t:TypeId}{d:TypeDesc}{cs:Array Value}{off:Nat}{v:Value}(h:P.underlying t=some d)(hd:Mp d=true)(hv:cs[off]? =some v):cG P (part t cs off)=some v:=by unfold part;rw[gA,ajV h hd,AC,hv];rfl
theorem ajT(d:Nat)(t:TypeId)(xs ys:Array Value)(ht:P.underlying t=some (.struct (P.fieldsOf t)))(hp:P.stoodInHeld t=false):cG P (Op.equalIn (d+1) t (.agg xs) (.agg ys))=cG P (Op.eqFields d xs ys (P.fieldsOf t).toList):=by simp only[Op.equalIn,gA,ou ht,AC,MY,hp,GE,if_false];rw[<-Array.forIn_toList];generalize(P.fieldsOf t).toList=fs;clear ht;induction fs with|nil=>(rfl)|cons f fs ih=>simp only[List.forIn_cons,Op.eqFields,gA];split;·{simp only[gA];cases cG P (part f.type xs f.offset)with|none=>(rfl)|some a=>simp only[AC];cases cG P (part f.type ys f.offset)with|none=>(rfl)|some b=>simp only[AC];cases cG P (Op.equalIn d f.type a b)with|none=>(rfl)|some r=>cases r;·{rfl};·simp only[AC,Bool.not_true,GE,if_false,o9];exact ih};·simp only[o9,AC];exact ih
def Ii:Value->Value->Option Bool| .int k a, .int k' b=>if k=k' then some (a==b)else none| .bool a, .bool b=>some (a==b)| .string a, .string b=>some (a.toList==b.toList)|_,_=>none
def fits:TypeDesc->Value->Bool| .int _, .int _ _=>true| .bool, .bool _=>true| .string, .string _=>true|_,_=>false
theorem Uk{d:Nat}{t:TypeId}{D:TypeDesc}{x y:Value}{b:Bool}(h:P.underlying t=some D)(hf:fits D x=true)(he:Ii x y=some b):cG P (Op.equalIn (d+1) t x y)=some b:=by
 cases x<;>cases D<;>simp only[fits,GE]at hf<;>cases y<;>simp only[Ii]at he<;>try cases he
 ·simp[Op.equalIn,gA,ou h,o9]
 ·split at he
  ·rename_i hk;subst hk
   simp only[H1]at he;subst he
   simp[Op.equalIn,gA,ou h,o9]
  ·cases he
 ·simp[Op.equalIn,gA,ou h,o9,beq_toListBytes]
def zS(P:Program)(xs ys:Array Value):List Field->Option Bool|[]=>some true|f::fs=>if f.name≠ "_" then match P.underlying f.type,xs[f.offset]?,ys[f.offset]? with|some D,some x,some y=>if fits D x then(Ii x y).bind fun b=>(zS P xs ys fs).map (b&&·)else none|_,_,_=>none else none
theorem Ui{d:Nat}{xs ys:Array Value}:∀{fs:List Field}{b:Bool},zS P xs ys fs=some b->cG P (Op.eqFields (d+1) xs ys fs)=some b|[],b,h=>by{simp[zS]at h;subst h;rfl}|f::fs,b,h=>by unfold zS at h;split at h;·{rename_i hn;split at h;·{rename_i D x y hD hx hy;split at h;·{rename_i hf;simp only[Hd,Ps]at h;obtain⟨b1,h1,b2,h2,rfl⟩:=h;have hd:Mp D=true:=by{cases D<;>cases x<;>simp[fits]at hf<;>rfl};simp only[Op.eqFields];rw[if_pos hn];simp only[gA,Ul hD hd hx,Ul hD hd hy,Option.bind_some,Uk hD hf h1];cases b1;·{rfl};·simpa using Ui h2};·cases h};·cases h};·cases h
theorem ZJ{t:TypeId}{x y:Operand}{xs ys:Array Value}{fs:Array Field}{b:Bool}(hf:P.underlying t=some (.struct fs))(hp:P.stoodInHeld t=false)(hm:P.eqGuardType P.depth t=false)(he:zS P xs ys fs.toList=some b):dY P .neq t x y (.agg xs) (.agg ys)=some (.bool (!b)):=by have e:P.fieldsOf t=fs:=by{unfold Program.fieldsOf;rw[hf]};unfold dY;have e1:cG P (eqGuard .neq t x y (.agg xs) (.agg ys))=some ():=by{simp[eqGuard,gA,MY,hm,o9]};rw[gA,e1,AC];simp only[binOp,Op.equal,Op.maxDepth];rw[gA,ajT 9999 t xs ys (by rw[e];exact hf) hp,e,Ui he];rfl
end
open Go
inductive dn where|nil|code(n:Int)|other deriving DecidableEq,Inhabited
def gH(t:TypeId):dn->U| .nil=> .val .nilIface| .code n=> .val (.iface t (.int .i64 n))| .other=> .nn
def iO:Option Int->U|none=> .val (.pointer none)|some n=> .ay [.val (.int .i64 n)]
def jR(o:Option Int):List U:=[iO o]
/-! ### Facts about the program's types, found by their numbers -/
class cY(C:aF)(t:TypeId)(d:outParam TypeDesc):Prop where ul:C.P.underlying t=some d
class cI(C:aF)(t:TypeId)(b:outParam Bool)(n:outParam Nat):Prop where
 kK:lA C t=some b
 sz:hG C t=some n
class Fd(C:aF)(t i:Nat)(off n:outParam Nat)(b:outParam Bool):Prop where fd:CB C t i=some (off,n,b)
class jQ(C:aF)(t:TypeId)(cs:outParam (List U)):Prop where gp:y9 C t=some cs
class k6(C:aF)(t:TypeId)(cs:outParam (List U)):Prop where V2:za C t=some cs
class Pl(C:aF)(t:TypeId)(pl:outParam (List (Nat×Nat×Bool))):Prop where pl:MX C t=some pl
def B6(C:aF)(e:TypeId)(m:Nat):Bool:=match C.P.info? e with|some i=>i.size==m&&decide (0<m)&&decide (i.bytes<=4096)&&EP i|none=>false
class rJ(C:aF)(e:TypeId)(m:outParam Nat):Prop where ao:B6 C e m=true
class iU{α:Type}(c:α->List U):Prop where fl:∀x,cN (c x)=true
class qH{α:Type}(c:α->List U):Prop where
 im:∀x,dZ (c x)=true
 ce:∀x,(c x).all U.cell=true
class BP{α:Type}(c:α->List U)(c':outParam (α->List U)):Prop where dF:∀x,jV (c x)=c' x
class amy{α:Type}(c:α->List U):Prop where mi:∀x,mR (c x)=true
section
variable{g g' h k:Bool}{x:U}
theorem Is{t:TypeId}{e:dn}:un g (gH t e)=gH t e:=by cases e<;>cases g<;>rfl
theorem y3{e:Option Int}:un g (iO e)=iO e:=by cases e<;>cases g<;>rfl
theorem alQ{p:Bool}:un (true&&p) (.c8 (p==true) x)=x:=by cases p<;>rfl
theorem alR{p:Bool}:un (true&& !p) (.c8 (p==false) x)=x:=by cases p<;>rfl
theorem alS{p:Bool}:un (g&&p) (.c8 (g&&(p==true)) x)=x:=by cases p<;>cases g<;>rfl
theorem alT{p:Bool}:un (g&& !p) (.c8 (g&&(p==false)) x)=x:=by cases p<;>cases g<;>rfl
end
theorem bG{a b:U}(h:a=b:=by first|exact Vu _|exact Is|exact y3|exact aq1|exact alQ|exact alR|exact alS|exact alT|exact aqQ|exact aqR|exact aqU|exact aqS|exact aqT):a=b:=h
theorem gt{a b:U}(h:a=b:=by first|exact(rfl:_=U.val _)|exact(rfl:_=U.sl _)|exact(rfl:_=U.rs _ _ _)|exact(rfl:_=U.mp _ _ _)|exact(rfl:_=U.ay _)|exact(rfl:_=U.agg _)|exact(rfl:_=U.ct)|exact(rfl:_=U.aU _)|exact(rfl:_=U.fn _ _ _)|exact Is|exact y3|exact(rfl:_=U.nn)|exact(rfl:_=U.mr _)|exact(rfl:_=U.im _)|exact(rfl:_=U.ef _)|exact bG):a=b:=h
theorem ak9{α:Type}{a:α}{l t t':List α}(h:l=a::t)(k:t=t'):l=a::t':=by rw[h,k]
theorem ala{α:Type}{l:List α}(h:l=[]:=by exact rfl):l=[]:=h
theorem spine{α:Type}{a b:List α}(h:a=b:=by repeat(first|exact ala|apply ak9 rfl)):a=b:=h
theorem Sv{α:Type}{o:Option α}(h:o=none):o.isNone=true:=by rw[h];rfl
section
variable{C:aF}{f:FuncId}{call:fZ}{S:ah}{g:Bool}
variable{d:Nat}{ty:TypeId}{pos:String}{aQ:Array Edge}{bn:Option (Nat×Bool)}{v v':U}
variable{x y z:Operand}{k:IntKind}{a b:Int}{T aC:TypeId}
theorem aa(h:un g (S.get C x)=v:=by exact gt):bk C f call S g ⟨some d, .move x,ty,pos,aQ,bn⟩=some ⟨[(d,v)],[],[]⟩:=by subst h;rfl
theorem af(h:un g (S.get C x)=v:=by exact gt):bk C f call S g ⟨some d, .assign x,ty,pos,aQ,bn⟩=some ⟨[(d,v)],[],[]⟩:=by subst h;rfl
theorem nI{op:BinOp}{Pc Pd:U}{e7 iq nP:Value}(hx:un g (S.get C x)=Pc)(hy:un g (S.get C y)=Pd)(h1:mw Pc=some e7)(h2:mw Pd=some iq)(hb:dY C.P op T x y e7 iq=some nP)(hs:eo nP=true):bk C f call S g ⟨some d, .binOp op T x y aC,ty,pos,aQ,bn⟩=some ⟨[(d, .val nP)],[],[]⟩:=by show nk C _ op T x y (un g (S.get C x)) (un g (S.get C y))=_;rw[hx,hy];simp[nk,h1,h2,hb,hs]
theorem ot{op:BinOp}{nP:Value}(hb:dY C.P op T x y (.int k a) (.int k b)=some nP)(hs:eo nP=true)(hx:un g (S.get C x)= .val (.int k a))(hy:un g (S.get C y)= .val (.int k b)):bk C f call S g ⟨some d, .binOp op T x y aC,ty,pos,aQ,bn⟩=some ⟨[(d, .val nP)],[],[]⟩:=nI hx hy rfl rfl hb hs
theorem eE(hx:un g (S.get C x)= .val (.int k a):=by first|exact rfl|exact bG)(hy:un g (S.get C y)= .val (.int k b):=by first|exact rfl|exact bG):bk C f call S g ⟨some d, .binOp .add T x y aC,ty,pos,aQ,bn⟩=some ⟨[(d, .val (.int k (k.wrap (a+b))))],[],[]⟩:=ot Zy rfl hx hy
theorem fJ(hx:un g (S.get C x)= .val (.int k a):=by first|exact rfl|exact bG)(hy:un g (S.get C y)= .val (.int k b):=by first|exact rfl|exact bG):bk C f call S g ⟨some d, .binOp .sub T x y aC,ty,pos,aQ,bn⟩=some ⟨[(d, .val (.int k (k.wrap (a-b))))],[],[]⟩:=ot ZM rfl hx hy
theorem Ty(hx:un g (S.get C x)= .val (.int k a):=by first|exact rfl|exact bG)(hy:un g (S.get C y)= .val (.int k b):=by first|exact rfl|exact bG):bk C f call S g ⟨some d, .binOp .mul T x y aC,ty,pos,aQ,bn⟩=some ⟨[(d, .val (.int k (k.wrap (a*b))))],[],[]⟩:=ot ZG rfl hx hy
theorem az(hx:un g (S.get C x)= .val (.int k a):=by first|exact rfl|exact bG)(hy:un g (S.get C y)= .val (.int k b):=by first|exact rfl|exact bG):bk C f call S g ⟨some d, .binOp .eql T x y aC,ty,pos,aQ,bn⟩=some ⟨[(d, .val (.bool (a==b)))],[],[]⟩:=ot Zz rfl hx hy
theorem gW(hx:un g (S.get C x)= .val (.int k a):=by first|exact rfl|exact bG)(hy:un g (S.get C y)= .val (.int k b):=by first|exact rfl|exact bG):bk C f call S g ⟨some d, .binOp .neq T x y aC,ty,pos,aQ,bn⟩=some ⟨[(d, .val (.bool (a !=b)))],[],[]⟩:=ot ZH rfl hx hy
theorem e4(hx:un g (S.get C x)= .val (.int k a):=by first|exact rfl|exact bG)(hy:un g (S.get C y)= .val (.int k b):=by first|exact rfl|exact bG):bk C f call S g ⟨some d, .binOp .lss T x y aC,ty,pos,aQ,bn⟩=some ⟨[(d, .val (.bool (decide (a<b))))],[],[]⟩:=ot ZF rfl hx hy
theorem gy(hx:un g (S.get C x)= .val (.int k a):=by first|exact rfl|exact bG)(hy:un g (S.get C y)= .val (.int k b):=by first|exact rfl|exact bG):bk C f call S g ⟨some d, .binOp .leq T x y aC,ty,pos,aQ,bn⟩=some ⟨[(d, .val (.bool (decide (a<=b))))],[],[]⟩:=ot ZE rfl hx hy
theorem j5(hx:un g (S.get C x)= .val (.int k a):=by first|exact rfl|exact bG)(hy:un g (S.get C y)= .val (.int k b):=by first|exact rfl|exact bG):bk C f call S g ⟨some d, .binOp .gtr T x y aC,ty,pos,aQ,bn⟩=some ⟨[(d, .val (.bool (decide (b<a))))],[],[]⟩:=ot ZD rfl hx hy
theorem fO(hx:un g (S.get C x)= .val (.int k a):=by first|exact rfl|exact bG)(hy:un g (S.get C y)= .val (.int k b):=by first|exact rfl|exact bG):bk C f call S g ⟨some d, .binOp .geq T x y aC,ty,pos,aQ,bn⟩=some ⟨[(d, .val (.bool (decide (b<=a))))],[],[]⟩:=ot ZC rfl hx hy
theorem ZB{P:Program}{a b:ByteArray}:dY P .eql T x y (.string a) (.string b)=some (.bool (a.toList==b.toList)):=by simp[dY,eqGuard,binOp,Op.stringOp,cG,bind,Sem.bind,pure]
theorem ZI{P:Program}{a b:ByteArray}:dY P .neq T x y (.string a) (.string b)=some (.bool (a.toList !=b.toList)):=by simp[dY,eqGuard,binOp,Op.stringOp,cG,bind,Sem.bind,pure,bne]
theorem ec{a b:ByteArray}(hx:un g (S.get C x)= .val (.string a):=by first|exact rfl|exact bG)(hy:un g (S.get C y)= .val (.string b):=by first|exact rfl|exact bG):bk C f call S g ⟨some d, .binOp .eql T x y aC,ty,pos,aQ,bn⟩=some ⟨[(d, .val (.bool (a.toList==b.toList)))],[],[]⟩:=nI hx hy rfl rfl ZB rfl
theorem HE{a b:ByteArray}(hx:un g (S.get C x)= .val (.string a):=by first|exact rfl|exact bG)(hy:un g (S.get C y)= .val (.string b):=by first|exact rfl|exact bG):bk C f call S g ⟨some d, .binOp .neq T x y aC,ty,pos,aQ,bn⟩=some ⟨[(d, .val (.bool (a.toList !=b.toList)))],[],[]⟩:=nI hx hy rfl rfl ZI rfl
theorem ZA{P:Program}{a b:Bool}(hu:P.underlying T=some .bool):dY P .eql T x y (.bool a) (.bool b)=some (.bool (a==b)):=by have e:dY P .eql T x y (.bool a) (.bool b)=cG P (do pure (.bool (<-Op.equal T (.bool a) (.bool b)))):=rfl;rw[e,gA];unfold Op.equal Op.maxDepth;rw[Uk (d:=9999) hu rfl rfl];rfl
theorem ahV{a b:Bool}[hu:cY C T .bool](hx:un g (S.get C x)= .val (.bool a):=by first|exact rfl|exact bG)(hy:un g (S.get C y)= .val (.bool b):=by first|exact rfl|exact bG):bk C f call S g ⟨some d, .binOp .eql T x y aC,ty,pos,aQ,bn⟩=some ⟨[(d, .val (.bool (a==b)))],[],[]⟩:=nI hx hy rfl rfl (ZA hu.ul) rfl
theorem qw{op:BinOp}{xs ys:List U}{vx vy:List Value}{q:Bool}(hb:dY C.P op T x y (.agg ⟨vx⟩) (.agg ⟨vy⟩)=some (.bool q))(hx:un g (S.get C x)= .agg xs:=by first|exact rfl|exact bG)(hy:un g (S.get C y)= .agg ys:=by first|exact rfl|exact bG)(h1:jm xs=some vx:=by exact rfl)(h2:jm ys=some vy:=by exact rfl):bk C f call S g ⟨some d, .binOp op T x y aC,ty,pos,aQ,bn⟩=some ⟨[(d, .val (.bool q))],[],[]⟩:=nI hx hy (by simp[mw,h1]) (by simp[mw,h2]) hb rfl
theorem gX{p:Bool}(hx:un g (S.get C x)= .val (.bool p):=by first|exact rfl|exact bG):bk C f call S g ⟨some d, .unOp .not T x,ty,pos,aQ,bn⟩=some ⟨[(d, .val (.bool !p))],[],[]⟩:=by show xo C _ .not (un g (S.get C x))=_;rw[hx];rfl
theorem TD{op:UnOp}{e7 nP:Value}(hb:Bz C.P op e7=some nP)(hs:eo nP=true)(hx:un g (S.get C x)= .val e7:=by first|exact rfl|exact bG):bk C f call S g ⟨some d, .unOp op T x,ty,pos,aQ,bn⟩=some ⟨[(d, .val nP)],[],[]⟩:=by show xo C _ op (un g (S.get C x))=_;rw[hx];simp[hb,hs]
theorem ahT{e7 nP:Value}(hb:FP C.P T aC e7=some nP)(hx:un g (S.get C x)= .val e7:=by first|exact rfl|exact bG)(hs:eo nP=true:=by exact rfl)(hnb:uU C T aC=false:=by first|rfl|decide):bk C f call S g ⟨some d, .convert T aC x,ty,pos,aQ,bn⟩=some ⟨[(d, .val nP)],[],[]⟩:=by show tB C _ T aC (un g (S.get C x))=_;rw[hx,abR hnb];simp[hb,hs]
theorem bC{p q r:Bool}(hx:un g (S.get C x)= .val (.bool p):=by first|exact rfl|exact bG)(hy:un (g&&p) (S.get C y)= .val (.bool q):=by first|exact rfl|exact bG)(hz:un (g&& !p) (S.get C z)= .val (.bool r):=by first|exact rfl|exact bG):bk C f call S g ⟨some d, .pick x y z,ty,pos,aQ,bn⟩=some ⟨[(d, .val (.bool (if p then q else r)))],[],[]⟩:=by show va _ (un g (S.get C x)) (un (g&&ng (un g (S.get C x))) (S.get C y)) (un (g&& !ng (un g (S.get C x))) (S.get C z))=_;rw[hx];simp only[ng];rw[hy,hz];rfl
theorem cz{q:Bool}(hx:un g (S.get C x)= .val (.bool true):=by exact rfl)(hy:un (g&&true) (S.get C y)= .val (.bool q):=by first|exact rfl|exact bG):bk C f call S g ⟨some d, .pick x y z,ty,pos,aQ,bn⟩=some ⟨[(d, .val (.bool q))],[],[]⟩:=by show va _ (un g (S.get C x)) (un (g&&ng (un g (S.get C x))) (S.get C y)) (un (g&& !ng (un g (S.get C x))) (S.get C z))=_;rw[hx];simp only[ng];rw[hy];generalize un (g&& !true) (S.get C z)=w;cases w with|val v=>(cases v<;>rfl)|_=>rfl
theorem bM{q:Bool}(hx:un g (S.get C x)= .val (.bool false):=by exact rfl)(hz:un (g&&true) (S.get C z)= .val (.bool q):=by first|exact rfl|exact bG):bk C f call S g ⟨some d, .pick x y z,ty,pos,aQ,bn⟩=some ⟨[(d, .val (.bool q))],[],[]⟩:=by show va _ (un g (S.get C x)) (un (g&&ng (un g (S.get C x))) (S.get C y)) (un (g&& !ng (un g (S.get C x))) (S.get C z))=_;rw[hx];simp only[ng,Bool.not_false];rw[hz];generalize un (g&&false) (S.get C y)=w;cases w with|val v=>(cases v<;>rfl)|_=>rfl
/-! ### Memory that does not change -/
theorem nH{bb:Bool}{m:Nat}{cs cs':List U}[ha:cI C T bb m](hin:(C.eI f).contains d=true:=by exact rfl)(hx:un g (S.get C x)=v:=by exact gt)(hc:oL bb v=some cs:=by exact rfl)(hz:lC cs=cs':=by exact spine)(hi:dZ cs'=true:=by exact rfl):bk C f call S g ⟨some d, .box T x,ty,pos,aQ,bn⟩=some ⟨[(d, .ay cs')],[],[]⟩:=by show qR C f S _ T (un g (S.get C x))=_;simp only[qR,ha.kK,hx,hc,eX,hin,hz,hi,QP,if_true];rfl
theorem aq{m:Nat}{cells cs:List U}[ha:cI C T false m](hx:un g (S.get C x)= .ay cells:=by first|exact rfl|exact bG)(hm:m=1:=by exact rfl)(hv:cells=v::cs:=by exact rfl):bk C f call S g ⟨some d, .load T x,ty,pos,aQ,bn⟩=some ⟨[(d,v)],[],[]⟩:=by show lU C S _ T (un g (S.get C x))=_;subst hm hv;simp[lU,ha.kK,ha.sz,hx,jh]
theorem cK{m:Nat}{cells cs:List U}[ha:cI C T true m](hx:un g (S.get C x)= .ay cells:=by first|exact rfl|exact bG)(hl:Ha m cells.length=true:=by exact rfl)(hv:cells.take m=cs:=by exact spine):bk C f call S g ⟨some d, .load T x,ty,pos,aQ,bn⟩=some ⟨[(d, .agg cs)],[],[]⟩:=by show lU C S _ T (un g (S.get C x))=_;have hl':m<=cells.length:=Hc hl;simp[lU,ha.kK,ha.sz,hx,hl',hv,jh]
theorem aD{i off m:Nat}{bb:Bool}{cells:List U}[hf:Fd C T i off m bb](hx:un g (S.get C x)= .ay cells:=by first|exact rfl|exact bG)(h0:Do 0 m=true:=by exact rfl)(hl:Ha off cells.length=true:=by exact rfl)(hz:(C.eI f).contains d=false:=by exact rfl):bk C f call S g ⟨some d, .fieldAddr T x i,ty,pos,aQ,bn⟩=some ⟨[(d, .ay (cells.drop off))],[],[]⟩:=by show r3 C f _ T i (un g (S.get C x))=_;have hl':off<=cells.length:=Hc hl;have h0':0<m:=of_decide_eq_true (lO h0);simp only[r3,hf.fd,hx,eX,hz];rw[if_pos ⟨h0',hl'⟩];rfl
theorem ahW{i off m:Nat}{bb:Bool}{cells cs:List U}[hf:Fd C T i off m bb](hx:un g (S.get C x)= .ay cells:=by first|exact rfl|exact bG)(h0:Do 0 m=true:=by exact rfl)(hl:Ha (off+m) cells.length=true:=by exact rfl)(hz:(C.eI f).contains d=true:=by exact rfl)(hc:(cells.drop off).take m=cs:=by exact spine):bk C f call S g ⟨some d, .fieldAddr T x i,ty,pos,aQ,bn⟩=some ⟨[(d, .ay cs)],[],[]⟩:=by show r3 C f _ T i (un g (S.get C x))=_;have hl':off+m<=cells.length:=Hc hl;have h0':0<m:=of_decide_eq_true (lO h0);simp only[r3,hf.fd,hx,eX,hz,if_true];rw[if_pos ⟨h0',by omega⟩,if_pos hl',hc];rfl
theorem D1{i off m:Nat}{cells cs:List U}[hf:Fd C T i off m false](hx:un g (S.get C x)= .agg cells:=by first|exact rfl|exact bG)(hm:m=1:=by exact rfl)(hv:cells.drop off=v::cs:=by exact rfl)(hl:Ha (off+1) cells.length=true:=by exact rfl):bk C f call S g ⟨some d, .field T x i,ty,pos,aQ,bn⟩=some ⟨[(d,v)],[],[]⟩:=by show zU C _ T i (un g (S.get C x))=_;subst hm;have hl':off+1<=cells.length:=Hc hl;simp[zU,hf.fd,hx,hl',hv,jh]
theorem cy{e:TypeId}{m:Nat}{bb:Bool}{α:Type}{c:α->List U}{q:List α}{i:Int}{r:α}(hi:idx q i=some r)[hu:cY C T (.slice e)][hs:cI C e bb m](hx:un g (S.get C x)= .sl (q.map c):=by first|exact rfl|exact bG)(hy:un g (S.get C y)= .val (.int k i):=by first|exact rfl|exact bG)(h0:Do 0 m=true:=by exact rfl)(hr:(c r).length=m:=by exact rfl):bk C f call S g ⟨some d, .indexAddr T x y,ty,pos,aQ,bn⟩=some ⟨[(d, .ay (c r))],[],[]⟩:=by show nq C S _ T (un g (S.get C x)) (en (un g (S.get C y)))=_;have h0':0<m:=of_decide_eq_true (lO h0);have h1:=Dx (c:=c) hi;unfold idx at h1;split at h1;·{rename_i hp;simp only[hx,hy,en,nq,hu.ul,hs.sz,if_pos hp,h1,AC];simp[hr,h0']};·cases h1
def dW(s:ByteArray)(i:Int):Option UInt8:=if 0<=i then s[i.toNat]? else none
theorem eK{s:ByteArray}{i:Int}{r:UInt8}(hi:dW s i=some r)[hu:cY C T .string](hx:un g (S.get C x)= .val (.string s):=by first|exact rfl|exact bG)(hy:un g (S.get C y)= .val (.int k i):=by first|exact rfl|exact bG):bk C f call S g ⟨some d, .index T x y,ty,pos,aQ,bn⟩=some ⟨[(d, .val (.int .u8 r.toNat))],[],[]⟩:=by show u7 C _ T (un g (S.get C x)) (en (un g (S.get C y)))=_;unfold dW at hi;split at hi;·{rename_i hp;simp only[hx,hy,en,u7,hu.ul,if_pos hp,hi,AC];rfl};·cases hi
section
variable{e:TypeId}{xs:Array Operand}{ts:Array TypeId}{T:TypeId}
theorem dN{α:Type}{c:α->List U}{q:List α}(hx:un g (S.get C x)= .sl (q.map c):=by first|exact rfl|exact bG)[hu:cY C T (.slice e)]:bk C f call S g ⟨some d, .call ⟨.builtin .len,⟨[x]⟩,⟨[T]⟩⟩,ty,pos,aQ,bn⟩=some ⟨[(d, .val (.int .i64 q.length))],[],[]⟩:=by show r4 C _ _ ([x].map fun x=>un g (S.get C x))=_;simp[hx,r4,hu.ul,DN,DO,vb]
theorem uk{id:Id}{off m m':Nat}(hx:un g (S.get C x)= .rs id off m':=by first|exact rfl|exact bG)(hm:m'=m:=by first|exact List.length_map _|exact rfl)[hu:cY C T (.slice e)]:bk C f call S g ⟨some d, .call ⟨.builtin .len,⟨[x]⟩,⟨[T]⟩⟩,ty,pos,aQ,bn⟩=some ⟨[(d, .val (.int .i64 m))],[],[]⟩:=by show r4 C _ _ ([x].map fun x=>un g (S.get C x))=_;simp[hx,r4,hu.ul,DN,DO,vb,hm]
theorem ic{s:ByteArray}(hx:un g (S.get C x)= .val (.string s):=by first|exact rfl|exact bG)[hu:cY C T .string]:bk C f call S g ⟨some d, .call ⟨.builtin .len,⟨[x]⟩,⟨[T]⟩⟩,ty,pos,aQ,bn⟩=some ⟨[(d, .val (.int .i64 s.size))],[],[]⟩:=by show r4 C _ _ ([x].map fun x=>un g (S.get C x))=_;simp[hx,r4,hu.ul,DN,vb]
end
theorem Um:([]:List (Nat×Operand)).map (fun p=>(p.1,un g (S.get C p.2)))=[]:=rfl
theorem ajW{i:Nat}{l:List (Nat×Operand)}{l':List (Nat×U)}(hx:un g (S.get C x)=v)(k:l.map (fun p=>(p.1,un g (S.get C p.2)))=l'):((i,x)::l).map (fun p=>(p.1,un g (S.get C p.2)))=(i,v)::l':=by simp[hx,k]
theorem HV{l:List (Nat×Operand)}{l':List (Nat×U)}(h:l.map (fun p=>(p.1,un g (S.get C p.2)))=l':=by repeat(first|exact Um|(apply ajW;exact gt))):l.map (fun p=>(p.1,un g (S.get C p.2)))=l':=h
theorem cZ{p:List (Nat×Operand)}{gp cs cs0:List U}{pl:List (Nat×Nat×Bool)}{ps:List (Nat×U)}[hz:jQ C T gp][hp:Pl C T pl](hq:(p.map fun p=>(p.1,un g (S.get C p.2)))=ps:=by exact HV)(hf:xp pl gp ps=some cs0:=by exact rfl)(hc:cs0=cs:=by exact spine)(kD:C.wA f d=[]:=by exact rfl):bk C f call S g ⟨some d, .build T ⟨p⟩,ty,pos,aQ,bn⟩=some ⟨[(d, .agg cs)],[],[]⟩:=by show u0 C f _ T (p.map fun p=>(p.1,un g (S.get C p.2)))=_;rw[hq];simp[u0,hz.gp,hp.pl,hf,hc,ER,kD,wB]
theorem mh{p:List (Nat×Operand)}{gp V0 cs cs0:List U}{l:List Nat}{pl:List (Nat×Nat×Bool)}{ps:List (Nat×U)}[hz:jQ C T gp][hp:Pl C T pl](kD:C.wA f d=l:=by exact rfl)(AA:wB l gp=V0:=by exact rfl)(hq:(p.map fun p=>(p.1,un g (S.get C p.2)))=ps:=by exact HV)(hf:xp pl V0 ps=some cs0:=by exact rfl)(hc:cs0=cs:=by exact spine):bk C f call S g ⟨some d, .build T ⟨p⟩,ty,pos,aQ,bn⟩=some ⟨[(d, .agg cs)],[],[]⟩:=by subst AA;show u0 C f _ T (p.map fun p=>(p.1,un g (S.get C p.2)))=_;rw[hq];simp[u0,hz.gp,hp.pl,hf,hc,ER,kD]
theorem yw{c9:Fn}{fs cs:Array Operand}{fa fb:List U}(ha:(fs.toList.map fun x=>un g (S.get C x))=fa:=by exact spine)(hb:(cs.toList.map fun x=>un g (S.get C x))=fb:=by exact spine):bk C f call S g ⟨some d, .makeFunc c9 fs cs,ty,pos,aQ,bn⟩=some ⟨[(d, .fn c9 fa fb)],[],[]⟩:=by subst ha hb;rfl
theorem cP{vs:List U}{i:Nat}(hx:un g (S.get C x)= .aU vs:=by first|exact rfl|exact bG)(hi:vs[i]? =some v:=by exact rfl):bk C f call S g ⟨some d, .extract x i,ty,pos,aQ,bn⟩=some ⟨[(d,v)],[],[]⟩:=by show zT _ (un g (S.get C x)) i=_;rw[hx];simp[zT,hi]
theorem b6(hx:un g (S.get C x)=v:=by exact gt)(hv:(match v with| .ay _| .mp _ _ _| .fn (.func _) _ _=>true|_=>false)=true:=by exact rfl):bk C f call S g ⟨some d, .nilCheck x,ty,pos,aQ,bn⟩=some ⟨[(d,v)],[],[]⟩:=by show zV _ (un g (S.get C x))=_;rw[hx];cases v with|fn c9 a b=>(cases c9<;>first|rfl|cases hv)|ay _=>(rfl)|mp _ _ _=>(rfl)|_=>cases hv
theorem ag8{P:Program}{ts:Array TypeId}{k:IntKind}{a b:Int}:Hj P ts ty [.int k a, .int k b]=some (.int k (max a b)):=by have e:(if b>a then b else a)=max a b:=by{omega};simp[Hj,Builtin.max_,Builtin.max2,cG,List.foldlM,bind,Sem.bind,pure,e]
theorem aha{P:Program}{ts:Array TypeId}{k:IntKind}{a b:Int}:Hl P ts ty [.int k a, .int k b]=some (.int k (min a b)):=by have e:(if b<a then b else a)=min a b:=by{omega};simp[Hl,Builtin.min_,Builtin.min2,cG,List.foldlM,bind,Sem.bind,pure,e]
theorem Mu{k:IntKind}{a b:Int}{ts:Array TypeId}(hx:un g (S.get C x)= .val (.int k a):=by first|exact rfl|exact bG)(hy:un g (S.get C y)= .val (.int k b):=by first|exact rfl|exact bG):bk C f call S g ⟨some d, .call ⟨.builtin .max,⟨[x,y]⟩,ts⟩,ty,pos,aQ,bn⟩=some ⟨[(d, .val (.int k (max a b)))],[],[]⟩:=by show(match jm ([x,y].map fun x=>un g (S.get C x))with|some vs=>kX _ (Hj C.P ts ty vs)|none=>none)=_;simp only[Hm,H3,hx,hy,jm,Hb,ag8];rfl
theorem Tx{k:IntKind}{a b:Int}{ts:Array TypeId}(hx:un g (S.get C x)= .val (.int k a):=by first|exact rfl|exact bG)(hy:un g (S.get C y)= .val (.int k b):=by first|exact rfl|exact bG):bk C f call S g ⟨some d, .call ⟨.builtin .min,⟨[x,y]⟩,ts⟩,ty,pos,aQ,bn⟩=some ⟨[(d, .val (.int k (min a b)))],[],[]⟩:=by show(match jm ([x,y].map fun x=>un g (S.get C x))with|some vs=>kX _ (Hl C.P ts ty vs)|none=>none)=_;simp only[Hm,H3,hx,hy,jm,Hb,aha];rfl
/-! ### Parts of slices and strings -/
def slc{α:Type}(l:List α)(lo hi:Option Int):Option (List α):=(bounds (lo.map some) (hi.map some) l.length).map fun p=>(l.take p.2).drop p.1
def jl(s:ByteArray)(lo hi:Option Int):Option ByteArray:=(bounds (lo.map some) (hi.map some) s.size).map fun p=>s.extract p.1 p.2
theorem FC:(none.map fun y=>en (un g (S.get C y)))=(none:Option Int).map some:=rfl
theorem FD{n:Int}(h:un g (S.get C y)= .val (.int k n):=by first|exact rfl|exact bG):((some y).map fun y=>en (un g (S.get C y)))=(some n).map some:=by show some (en (un g (S.get C y)))=_;rw[h];rfl
theorem B2{α:Type}{c:α->List U}{q:List α}{m:Nat}(hc:∀x,(c x).length=m):(q.map c).all (·.length==m)=true:=by simp[hc]
theorem ah1{e:TypeId}{α:Type}{c:α->List U}{q r:List α}{lo hi:Option Operand}{lo' hi':Option Int}{m:Nat}{bb:Bool}(hr:slc q lo' hi'=some r)[hu:cY C T (.slice e)][hs:cI C e bb m](hx:un g (S.get C x)= .sl (q.map c):=by first|exact rfl|exact bG)(h1:(lo.map fun y=>en (un g (S.get C y)))=lo'.map some:=by first|exact FC|exact FD)(h2:(hi.map fun y=>en (un g (S.get C y)))=hi'.map some:=by first|exact FC|exact FD)(h0:Do 0 m=true:=by exact rfl)(hl:∀x,(c x).length=m:=by exact fun _=>rfl):bk C f call S g ⟨some d, .slice T x lo hi none,ty,pos,aQ,bn⟩=some ⟨[(d, .sl (r.map c))],[],[]⟩:=by unfold slc at hr;obtain⟨p,hp,rfl⟩:=Option.map_eq_some_iff.1 hr;show oO C S _ T (un g (S.get C x)) _ _=_;have h0':0<m:=of_decide_eq_true (lO h0);rw[hx];simp only[oO,hu.ul,hs.sz,h1,h2,H4,hp,AC];rw[if_pos ⟨h0',B2 hl⟩];simp[ret,put]
theorem lD{s r:ByteArray}{lo hi:Option Operand}{lo' hi':Option Int}(hr:jl s lo' hi'=some r)[hu:cY C T .string](hx:un g (S.get C x)= .val (.string s):=by first|exact rfl|exact bG)(h1:(lo.map fun y=>en (un g (S.get C y)))=lo'.map some:=by first|exact FC|exact FD)(h2:(hi.map fun y=>en (un g (S.get C y)))=hi'.map some:=by first|exact FC|exact FD):bk C f call S g ⟨some d, .slice T x lo hi none,ty,pos,aQ,bn⟩=some ⟨[(d, .val (.string r))],[],[]⟩:=by show oO C S _ T (un g (S.get C x)) (lo.map fun y=>en (un g (S.get C y))) (hi.map fun y=>en (un g (S.get C y)))=_;unfold jl at hr;obtain⟨p,hp,rfl⟩:=Option.map_eq_some_iff.1 hr;rw[hx,h1,h2];simp only[oO,hu.ul,hp,AC];rfl
end
open Go
theorem abM{t:TypeId}(e:dn):fA (gH t e)=true:=by cases e<;>rfl
theorem ac4{t:TypeId}{e:dn}:dF (gH t e)=gH t e:=by cases e<;>rfl
theorem ac9{e:Option Int}:dF (iO e)=iO e:=by cases e<;>rfl
theorem N5{e:Option Int}{p:Id}{j:Nat}:bJ p j [iO e]=([iO e],[]):=by cases e<;>rfl
theorem So{t:TypeId}{e:dn}{p:Id}:imp p (gH t e)=(gH t e,[]):=by cases e<;>rfl
theorem Sr{e:Option Int}{p:Id}:imp p (iO e)=(iO e,[]):=by cases e<;>rfl
theorem afZ{t:TypeId}{e:dn}{p:Id}{j:Nat}:eP p j [gH t e]=([gH t e],[]):=by cases e<;>rfl
/-! ### Owned cells become objects -/
section
variable{α:Type}{c:α->List U}{q:List α}{p:Id}{j:Nat}{l l0 l':List U}{v v':U}{wr:List (Id×Option Rows)}{rows:Rows}
theorem alX:bJ p j []=([],[]):=rfl
theorem alV(hl:l=v::l0)(hv:bJ p j [v]=([v],[]))(k:bJ p (j+1) l0=(l',wr)):bJ p j l=(v::l',wr):=by subst hl;cases v<;>simp_all[bJ]
theorem alY{m:Nat}(hl:l= .own (q.map c) m::l0)(k:bJ p (j+1) l0=(l',wr)):bJ p j l=(.rs (j::p) 0 m::l',(j::p,some (q.map c))::wr):=by subst hl;simp[bJ,k]
theorem alW(hl:l= .ef rows::l0)(k:bJ p (j+1) l0=(l',wr)):bJ p j l=(.mr (j::p)::l',(j::p,some rows)::wr):=by subst hl;simp[bJ,k]
theorem y5(h:bJ p j l=(l',wr):=by repeat'(first|exact alX|(apply alV;exact rfl;(first|exact rfl|exact aq6|exact N5))|(apply alY;exact rfl)|(apply aq7;exact rfl)|(apply alW;exact rfl))):bJ p j l=(l',wr):=h
theorem af7{m:Nat}:imp p (.own (q.map c) m)=(.rs p 0 m,[(p,some (q.map c))]):=by simp[imp]
theorem af6(h:bJ p 0 l=(l',wr)):imp p (.agg l)=(.agg l',wr):=by simp[imp,h]
theorem af8(h:bJ p 0 l=(l',wr)):imp p (.aP l)=(.mp p 0 0,(p,some [l'])::wr):=by simp[imp,h]
theorem af1:eP p j []=([],[]):=rfl
theorem af0(hl:l=v::l0)(hv:eP p j [v]=([v],[]))(k:eP p (j+1) l0=(l',wr)):eP p j l=(v::l',wr):=by subst hl;cases v with|own rows m=>(simp[eP]at hv)|aP cells=>(simp[eP]at hv)|ef rows=>(simp[eP]at hv)|agg cs=>(simp only[eP,List.append_nil,Prod.mk.injEq,List.cons.injEq,U.agg.injEq,and_true]at hv;simp[eP,k,hv.1,hv.2])|aU vs=>(simp[eP]at hv)|_=>simp[eP,k]
theorem af2{m:Nat}(hl:l= .own (q.map c) m::l0)(k:eP p (j+1) l0=(l',wr)):eP p j l=(.rs (j::p) 0 m::l',(j::p,some (q.map c))::wr):=by subst hl;simp[eP,k]
theorem afY{w1 w2:List (Id×Option Rows)}{a a':List U}(hl:l= .agg a::l0)(h:bJ (j::p) 0 a=(a',w1))(k:eP p (j+1) l0=(l',w2)):eP p j l=(.agg a'::l',w1++w2):=by subst hl;simp[eP,k,h]
theorem af9(h:eP p 0 l=(l',wr)):imp p (.aU l)=(.aU l',wr):=by simp[imp,h]
theorem x6(h:imp p v=(v',wr):=by first|exact(rfl:imp _ (.val _)=(.val _,[]))|exact(rfl:imp _ (.sl _)=(.sl _,[]))|exact So|exact Sr|exact af7|exact aow|exact aox|(apply af6;exact y5)|(apply af8;exact y5)|(apply af9;repeat'(first|exact af1|(apply af0;exact rfl;(first|exact rfl|exact afZ|exact aov))|(apply af2;exact rfl)|(apply aou;exact rfl)|(apply afY;exact rfl;exact y5)))|exact rfl):imp p v=(v',wr):=h
theorem ahe{n:Nat}{vs:List U}:aH n [] vs=⟨n,fun _=> .bf,fun _=>none⟩:=rfl
theorem ahd{n s:Nat}{t:Nat->U}{h:Id->Option (Option Rows)}{l:List Nat}{vs:List U}(hi:imp [s] v=(v,[]))(k:aH n l vs=⟨n,t,h⟩):aH n (s::l) (v::vs)=⟨n,aj t s v,h⟩:=by simp[aH,k,hi,aZ]
theorem ahc{n s:Nat}{t:Nat->U}{h:Id->Option (Option Rows)}{l:List Nat}{vs:List U}(hi:imp [s] v=(v',wr))(k:aH n l vs=⟨n,t,h⟩):aH n (s::l) (v::vs)=⟨n,aj t s v',aZ h wr⟩:=by simp[aH,k,hi]
theorem Hs{n:Nat}{t:Nat->U}{h:Id->Option (Option Rows)}{l:List Nat}{vs:List U}(k:aH n l vs=⟨n,t,h⟩:=by repeat'(first|exact ahe|(apply ahd;first|exact rfl|exact So|exact Sr)|(apply ahc;exact x6))):aH n l vs=⟨n,t,h⟩:=k
end
section
variable{C:aF}{f:FuncId}{call:fZ}{c:Code}{Q:Exit×ah->Prop}{n:Nat}{t:Nat->U}{h:Id->Option (Option Rows)}{l:List Nat}{vs:List U}
theorem mk(k:W C f call c ⟨n,t,h⟩ Q)(hm:aH n l vs=⟨n,t,h⟩:=by exact Hs):W C f call c (aH n l vs) Q:=by rw[hm];exact k
theorem fP{e:Exit}(k:Q (e,⟨n,t,h⟩))(hm:aH n l vs=⟨n,t,h⟩:=by exact Hs):Q (e,aH n l vs):=by rw[hm];exact k
end
/-! ### Packing -/
def PT{α:Type}(a b:List α):List α:=b.take (min b.length a.length)++a.drop (min b.length a.length)
theorem Co{α:Type}(a b:List α):(PT a b).length=a.length:=by unfold PT;rw[List.length_append,QQ,If];omega
section
variable{L:Id->Option (Option Rows)}{n:Nat}{α:Type}{c:α->List U}{q:List α}{id:Id}{cs cs':List U}{ids is:List Id}{x v:U}
theorem p7 [hc:iU c](q:List α):eC (q.map c)=true:=acn c q hc.fl
theorem ue{m m':Nat}(h:m=m':=by first|exact rfl|exact List.length_map _|(first|(with_reducible assumption)|assumption)|(symm;(first|(with_reducible assumption)|assumption))|(simp only[List.length_map,List.length_set,Co];done)|(simp only[List.length_map,List.length_set,Co];first|(first|(with_reducible assumption)|assumption)|(symm;(first|(with_reducible assumption)|assumption)))|(simp only[List.length_map,List.length_set,Co, *];done)):m=m':=h
theorem ajJ{y:U×List Id}:∀{a:U},flat a=true->pk L (n+1) a=some y->y=(a,[]):=by intro a hf h;cases a with|agg cs=>(simp only[flat]at hf;simp[pk,ig,hf]at h;exact h.symm)|aU cs=>(simp only[flat]at hf;simp[pk,ig,hf]at h;exact h.symm)|own rs m=>(simp only[flat]at hf;simp[pk,hf]at h;exact h.symm)|aP cs=>(simp only[flat]at hf;simp[pk,hf]at h;exact h.symm)|fn k a b=>(simp only[pk]at h;split at h;·{simpa using h.symm};·cases h)|rs _ _ _=>(simp[flat]at hf)|mp _ _ _=>(simp[flat]at hf)|mr _=>(simp[flat]at hf)|c8 _ _=>(simp[flat]at hf)|ct=>(simp[flat]at hf)|_=>simp[pk]at h;exact h.symm
theorem Q5:∀{cs:List U}{y:List U×List Id},cN cs=true->dL (pk L (n+1)) cs=some y->y=(cs,[])|[],y,_,h=>by{simp[dL]at h;exact h.symm}|c::cs,y,hf,h=>by simp only[cN,GT]at hf;simp only[dL,Hd,Ps]at h;obtain⟨u,hu,v,hv,rfl⟩:=h;obtain rfl:=ajJ hf.1 hu;obtain rfl:=Q5 hf.2 hv;rfl
theorem MU{y:List U×List Id}(h:dL (pk L (n+1)) cs=some y):ig (pk L (n+1)) cs=some y:=by unfold ig;split;·{rename_i hf;rw[Q5 hf h]};·exact h
theorem ajI{w:Value}(hx:x= .val w:=by exact rfl):pk L (n+1) x=some (.val w,[]):=by rw[hx];rfl
theorem ajH{r:Rows}(hx:x= .sl r:=by exact rfl):pk L (n+1) x=some (.sl r,[]):=by rw[hx];rfl
theorem ajA{r:List U}(hx:x= .ay r:=by exact rfl):pk L (n+1) x=some (.ay r,[]):=by rw[hx];rfl
theorem ajs{t:TypeId}{e:dn}(hx:x=gH t e:=by first|exact rfl|exact Is):pk L (n+1) x=some (gH t e,[]):=by rw[hx];cases e<;>rfl
theorem ajB{e:Option Int}(hx:x=iO e:=by first|exact rfl|exact y3):pk L (n+1) x=some (iO e,[]):=by rw[hx];cases e<;>rfl
theorem ajy(hx:x= .ct:=by exact rfl):pk L (n+1) x=some (.own [] 0,[]):=by rw[hx];rfl
theorem ajE{m:Nat}[hc:iU c](hx:x= .rs id 0 m:=by exact rfl)(hh:L id=some (some (q.map c)):=by exact rfl)(hl:m=q.length:=by exact ue):pk L (n+1) x=some (.own (q.map c) q.length,[id]):=by rw[hx,hl];exact Ua hh (by simp) (p7 q)
theorem ajC{m:Nat}[hc:iU c](hl:m<=q.length)(hx:x= .rs id 0 m:=by exact rfl)(hh:L id=some (some (q.map c)):=by exact rfl):pk L (n+1) x=some (.own (q.map c) m,[id]):=by rw[hx];exact Ua hh (by simpa using hl) (p7 q)
theorem ajz{m:Nat}[hc:iU c](hx:x= .own (q.map c) m:=by exact rfl):pk L (n+1) x=some (.own (q.map c) m,[]):=by rw[hx];simp[pk,p7]
theorem ajr(hx:x= .agg cs:=by exact rfl)(hf:cN cs=true:=by exact rfl):pk L (n+1) x=some (.agg cs,[]):=by rw[hx];simp[pk,ig,hf]
theorem ajq(hx:x= .agg cs)(h:dL (pk L (n+1)) cs=some (cs',ids)):pk L (n+2) x=some (.agg cs',ids):=by rw[hx,show pk L (n+2) (.agg cs)=(ig (pk L (n+1)) cs).map fun x=>(.agg x.1,x.2)from rfl,MU h];rfl
theorem ajw(hx:x= .mp id 0 0:=by exact rfl)(hh:L id=some (some [cs]):=by exact rfl)(hf:cN cs=true:=by exact rfl):pk L (n+1) x=some (.aP cs,[id]):=by rw[hx];simp[pk,ig,hh,hf]
theorem aju(hx:x= .mp id 0 0)(hh:L id=some (some [cs]))(h:dL (pk L (n+1)) cs=some (cs',ids)):pk L (n+2) x=some (.aP cs',id::ids):=by have e:pk L (n+2) (.mp id 0 0)=match L id with|some (some [cs])=>if 0=0∧0=0 then(ig (pk L (n+1)) cs).map fun x=>(.aP x.1,id::x.2)else none|_=>none:=rfl;rw[hx,e,hh];simp only[and_self,if_true,MU h];rfl
theorem ajv{VU:α}[hc:iU c](hx:x= .mp id 0 0:=by exact rfl)(hh:L id=some (some [c VU]):=by exact rfl):pk L (n+1) x=some (.aP (c VU),[id]):=by rw[hx];simp[pk,ig,hh,hc.fl]
theorem ajx{rows:Rows}(hx:x= .mr id:=by exact rfl)(hh:L id=some (some rows):=by exact rfl):pk L (n+1) x=some (.ef rows,[id]):=by rw[hx];simp[pk,hh]
theorem ajt{k:Fn}{a b:List U}(hx:x= .fn k a b:=by exact rfl)(hf:(dZ a&&dZ b)=true:=by exact rfl):pk L (n+1) x=some (.fn k a b,[]):=by rw[hx];simp only[GT]at hf;simp[pk,hf.1,hf.2]
theorem zZ{p:U->Option (U×List Id)}(hx:cs=[]:=by exact rfl):dL p cs=some ([],[]):=by rw[hx];rfl
theorem CF{p:U->Option (U×List Id)}{a b:U}{as bs:List U}{i1 i2:List Id}(hx:cs=a::as)(h:p a=some (b,i1))(k:dL p as=some (bs,i2)):dL p cs=some (b::bs,i1++i2):=by subst hx;simp[dL,h,k]
theorem ajM{t:Nat->U}:j8 L t []=some ([],[]):=rfl
theorem ajL{t:Nat->U}{s:Nat}{sl:List Nat}{vs:List U}(h1:pk L 9 (t s)=some (v,ids))(h2:j8 L t sl=some (vs,is)):j8 L t (s::sl)=some (v::vs,ids++is):=by rw[ajp,h1,AC,h2];rfl
end
/-! ### One row of a list, open -/
section
variable{α:Type}{c c':α->List U}{q:List α}{k:Nat}{x x':α}{r r':List U}
theorem Ig(h:q[k]? =some x):(q.map c)[k]? =some (c x):=by simp[h]
theorem U9:(q.map c).set k r=(q.map c).set k r:=rfl
theorem Nr:((q.map c).set k r).set k r'=(q.map c).set k r':=List.set_set ..
theorem akV:(q.map c).set k (c x)=(q.set k x).map c:=by rw[List.map_set]
theorem Q9{p:List U->Option (List U×List Id)}{ids:List Id}(hp:∀y,p (c y)=some (c y,[]))(hr:p r=some (r',ids)):∀{q:List α}{k:Nat}{x:α},q[k]? =some x->dP p ((q.map c).set k r)=some ((q.map c).set k r',ids)|[],k,x,h=>by{simp at h}|y::q,0,x,h=>by{have key:∀q:List α,dP p (q.map c)=some (q.map c,[]):=by{intro q;induction q with|nil=>(rfl)|cons z q ih=>simp[dP,hp,ih]};simp[dP,hr,key]}|y::q,k+1,x,h=>by have ih:=Q9 hp hr (q:=q) (k:=k) (x:=x) (by simpa using h);simp only[Hm,List.set_cons_succ,dP,hp,AC,ih,Hb,H2]
theorem QY(hf:cN r=false):∀{q:List α}{k:Nat}{x:α},q[k]? =some x->eC ((q.map c).set k r)=false|[],k,x,h=>by{simp at h}|y::q,0,x,h=>by{simp[eC,hf]}|y::q,k+1,x,h=>by have ih:=QY hf (q:=q) (k:=k) (x:=x) (by simpa using h);simp[eC,ih]
end
/-! ### Packing -/
section
variable{L:Id->Option (Option Rows)}{n m:Nat}{α:Type}{c c':α->List U}{q:List α}{k:Nat}{x x':α}{r r':List U}{id:Id}{ids:List Id}{v:U}
theorem yl{a b:Nat}(h:a<=b:=by first|exact Nat.le_refl _|(first|(with_reducible assumption)|assumption)|(simp only[List.length_set,Co];first|exact Nat.le_refl _|(first|(with_reducible assumption)|assumption))|(simp only[List.length_set,Co];omega)):a<=b:=h
theorem T9 [hc:iU c](hx:v= .rs id 0 m)(hh:L id=some (some ((q.map c).set k r)))(hf:cN r=false)(hk:q[k]? =some x)(hm:m<=q.length)(hr:dL (pk L (n+1)) r=some (r',ids))(hr':r'=c x'):pk L (n+2) v=some (.own ((q.set k x').map c) m,id::ids):=by subst hr';rw[hx];have e:pk L (n+2) (.rs id 0 m)=match L id with|some (some rs)=>if 0=0∧m<=rs.length then(mm (pk L (n+1)) rs).map fun x=>(.own x.1 m,id::x.2)else none|_=>none:=rfl;rw[e,hh];simp only[QR,H4,true_and,if_pos hm];have h2:mm (pk L (n+1)) ((q.map c).set k r)=some ((q.map c).set k (c x'),ids):=by{unfold mm;rw[if_neg (by rw[QY hf hk];simp)];exact Q9 (fun y=>by simp[ig,hc.fl]) (MU hr) hk};rw[h2,akV];rfl
theorem ajG [hc:iU c](hx:v= .rs id 0 m)(hh:L id=some (some ((q.map c).set k r)))(hf:cN r=false)(hk:q[k]? =some x)(hm:m=q.length)(hr:dL (pk L (n+1)) r=some (r',ids))(hr':r'=c x'):pk L (n+2) v=some (.own ((q.set k x').map c) (q.set k x').length,id::ids):=by rw[QR,<-hm];exact T9 hx hh hf hk (by omega) hr hr'
theorem ajF{rows aY:Rows}(hx:v= .rs id 0 m)(hh:L id=some (some rows))(hm:Ha m rows.length=true)(hf:eC rows=false)(hr:dP (ig (pk L n)) rows=some (aY,ids)):pk L (n+1) v=some (.own aY m,id::ids):=by rw[hx];have e:pk L (n+1) (.rs id 0 m)=match L id with|some (some rs)=>if 0=0∧m<=rs.length then(mm (pk L n) rs).map fun x=>(.own x.1 m,id::x.2)else none|_=>none:=rfl;rw[e,hh];have hm':m<=rows.length:=Hc hm;simp only[true_and,if_pos hm',mm,hf,GE,if_false,hr,Hb]
theorem ajS{p:List U->Option (List U×List Id)}{rows:Rows}(e:rows=[]:=by exact rfl):dP p rows=some ([],[]):=by subst e;rfl
theorem ajR{p:List U->Option (List U×List Id)}{rows rs rs':Rows}{i1 i2:List Id}(e:rows=r::rs)(h1:p r=some (r',i1))(h2:dP p rs=some (rs',i2)):dP p rows=some (r'::rs',i1++i2):=by subst e;simp[dP,h1,h2]
theorem ajD [hc:iU c](hx:v= .rs id 0 m:=by exact rfl)(hh:L id=some (some (q.map c)):=by exact rfl)(hm:m<=q.length:=by exact yl):pk L (n+1) v=some (.own (q.map c) m,[id]):=ajC hm hx hh
end
section
variable{L:Id->Option (Option Rows)}{n:Nat}{α:Type}{c:α->List U}{q:List α}{id:Id}{cs cs':List U}{ids is:List Id}{x v:U}
theorem mW{a:U}{y:Option (U×List Id)}(h:pk L n a=y:=by repeat'(first|exact ajI|exact ajs|exact ajB|exact ao4|exact ajH|exact ajE|exact ajD|(apply ajG;exact rfl;exact rfl;exact rfl;(first|(with_reducible assumption)|assumption);exact ue;rotate_left;exact rfl)|(apply T9;exact rfl;exact rfl;exact rfl;(first|(with_reducible assumption)|assumption);exact yl;rotate_left;exact rfl)|exact ajr|exact ajA|exact ajy|exact ajz|exact ajw|exact ajv|exact ao7|exact ao5|exact ao9|exact ajt|exact ajx|exact ao6|exact ao3|exact zZ|(apply CF;exact rfl)|(apply ajq;exact rfl)|(apply aju;exact rfl;exact rfl)|(apply ao8;exact rfl)|(apply ajF;exact rfl;exact rfl;exact rfl;exact rfl)|exact ajS|(apply ajR;exact rfl)|exact ao1|(apply ao2;exact rfl))):pk L n a=y:=h
theorem HT{t:Nat->U}{sl:List Nat}{y:Option (List U×List Id)}(h:j8 L t sl=y:=by repeat'(first|exact ajM|(apply ajL;exact mW))):j8 L t sl=y:=h
theorem ak{o:Option (Bool×List Nat)}{slots:List Nat}{t:Nat->U}{vs:List U}(hk:o=some (false,slots):=by exact rfl)(hp:j8 L t slots=some (vs,is):=by exact HT)(hn:dV is=true:=by exact rfl):dr o ⟨n,t,L⟩=some (aH n slots vs):=by subst hk;show(jG ⟨n,t,L⟩ slots).map _=_;rw[akm,hp];simp[hn]
end
/-! ### The same with names kept -/
section
variable{n:Nat}{t t2:Nat->U}{h:Id->Option (Option Rows)}{slots r:List Nat}{l:List (Id×Id)}{hl y:List (Id×Rows)}{α:Type}{c:α->List U}{q:List α}
def fY(n:Nat)(l:List (Nat×U))(h:List (Id×Rows)):ah:=⟨n,cT (fun _=> .bf) l,jB h⟩
/-! Rows that are flat, cell by cell. -/
theorem QU{α:Type}{c:α->List U}{q:List α}{m:Nat}[hc:iU c]:flat (.own (q.map c) m)=true:=by simp[flat,p7]
theorem QO{r cs:List U}{a:U}(e:r=a::cs)(h1:flat a=true)(h2:cN cs=true):cN r=true:=by subst e;simp[cN,h1,h2]
theorem acd{rows:Rows}(e:rows=[]:=by exact rfl):eC rows=true:=by subst e;rfl
theorem ace{rows rs:Rows}{r:List U}(e:rows=r::rs)(h1:cN r=true)(h2:eC rs=true):eC rows=true:=by subst e;simp[eC,h1,h2]
theorem JZ{rows:Rows}(k:eC rows=true:=by(repeat'(first|exact p7 _|exact acd|(apply ace;exact rfl)|exact ab8|(apply QO;exact rfl)|exact rfl|exact ab5|exact ab9|exact QU));first|done|fail):eC rows=true:=k
theorem ahg:oo l t []=cT (fun _=> .bf) []:=rfl
theorem ahf{s:Nat}{v':U}{vs:List (Nat×U)}(he:fo l (t s)=v')(hr:oo l t r=cT (fun _=> .bf) vs):oo l t (s::r)=cT (fun _=> .bf) ((s,v')::vs):=by subst he;simp[oo,hr,cT]
theorem aj9:lG l []=some []:=rfl
theorem aj8{cs as bs:List U}{a b:U}(hx:cs=a::as)(h1:ry l a=some b)(h2:lG l as=some bs):lG l cs=some (b::bs):=by subst hx;simp[lG,h1,h2]
theorem akd{i k:Id}{x:U}{off m m':Nat}(hx:x= .rs i off m:=by exact rfl)(hk:gi l i=some k:=by exact rfl)(hm:m=m':=by exact ue):ry l x=some (.rs k off m'):=by subst hx hm;simp[ry,yH,hk]
theorem aka{cs cs':List U}(h:lG l cs=some cs':=by repeat'(first|exact aj9|(apply aj8;exact rfl)|exact akd|exact rfl)):lG l cs=some cs':=h
theorem Ng [hc:iU c]:mY l (q.map c)=some (q.map c):=by simp[mY,p7]
theorem Ni{cs cs':List U}(hf:cN cs=false:=by exact rfl)(h:lG l cs=some cs':=by first|exact rfl|exact aka):mY l [cs]=some [cs']:=by simp[mY,eC,hf,Bb,h]
theorem Nh{rows:Rows}(hf:eC rows=true:=by first|exact rfl|exact JZ):mY l rows=some rows:=by simp[mY,hf]
end
section
variable{l:List (Id×Id)}{α:Type}{c:α->List U}{q:List α}{k:Nat}{x x':α}{r r':List U}
theorem akj{a:U}(h:flat a=true):ry l a=some a:=by cases a with|fn k as cs=>(simp only[ry];rw[if_pos (by simpa[flat]using h)])|rs _ _ _=>(simp[flat]at h)|mp _ _ _=>(simp[flat]at h)|mr _=>(simp[flat]at h)|ct=>(simp[flat]at h)|_=>simp only[ry,yH];rw[if_pos h]
theorem Ei:∀{as:List U},cN as=true->lG l as=some as|[],_=>rfl|a::as,h=>by simp only[cN,GT]at h;simp[lG,akj h.1,Ei h.2]
end
section
variable{n:Nat}{t t2:Nat->U}{h:Id->Option (Option Rows)}{slots r:List Nat}{l:List (Id×Id)}{hl y:List (Id×Rows)}{α:Type}{c:α->List U}{q:List α}
theorem ae8{L:Id->Option (Option Rows)}:qf L l []=some []:=rfl
theorem ae7{L:Id->Option (Option Rows)}{r:List (Id×Id)}{o k:Id}{rows aY:Rows}(h:L o=some (some rows))(hr:mY l rows=some aY)(hy:qf L l r=some y):qf L l ((o,k)::r)=some ((k,aY)::y):=by simp[qf,h,hr,hy]
theorem hnk{L:Id->Option (Option Rows)}{r:List (Id×Id)}(h:qf L l r=some y:=by repeat'(first|exact ae8|(apply ae7;exact rfl;first|exact Ng|exact apB rfl|exact apD (by(first|(with_reducible assumption)|assumption))|exact Ni|exact Nh))):qf L l r=some y:=h
theorem ahh{vs:List (Nat×U)}(h:oo l t slots=cT (fun _=> .bf) vs:=by repeat'(first|exact ahg|(apply ahf;first|exact rfl|exact apC))):oo l t slots=cT (fun _=> .bf) vs:=h
def agi:U->Bool| .ct=>true|_=>false
theorem Tl{y:ah}(e:(⟨n,t,h⟩:ah)=y:=by exact rfl):kF [] ⟨n,t,h⟩=y:=e
theorem ahJ{s:Nat}{sl:List Nat}{y:ah}(hs:agi (t s)=false)(k:kF sl ⟨n,t,h⟩=y):kF (s::sl) ⟨n,t,h⟩=y:=by have e:rm ⟨n,t,h⟩ s=⟨n,t,h⟩:=by{simp only[rm];split;·{rename_i h1 _;rw[h1]at hs;cases hs};·rfl};rw[kF,e];exact k
theorem ahI{s:Nat}{sl:List Nat}{y:ah}(hs:t s= .ct)(hh:h [s,s]=none)(k:kF sl ⟨n,aj t s (.rs [s,s] 0 0),aj h [s,s] (some (some []))⟩=y):kF (s::sl) ⟨n,t,h⟩=y:=by have e:rm ⟨n,t,h⟩ s=⟨n,aj t s (.rs [s,s] 0 0),aj h [s,s] (some (some []))⟩:=by{simp only[rm,hs,hh]};rw[kF,e];exact k
theorem ahK{y:ah}(k:kF slots ⟨n,t,h⟩=y:=by repeat'(first|with_reducible exact Tl|(apply ahJ;first|exact rfl|exact aoH|exact aoI)|(apply ahI;exact rfl;exact rfl)|exact Tl)):kF slots ⟨n,t,h⟩=y:=k
section
variable{keep:Id->Bool}{o:Id}{ol:List Id}{y0:Option ah}{rows aY:Rows}{ids:List Id}{r r':List U}{k:Nat}
theorem aaD{α:Type}{g:α->Id}{y0:Option ah}(e:some (⟨n,t,h⟩:ah)=y0:=by exact rfl):jS keep (List.map g []) ⟨n,t,h⟩=y0:=e
theorem aho(e:(dV ids&& !ids.contains o)=true):(dV ids&& !ids.contains o)=true:=e
theorem aaB(hh:h o=some (some rows))(hf:eC rows=true)(k:jS keep ol ⟨n,t,h⟩=y0):jS keep (o::ol) ⟨n,t,h⟩=y0:=by have e:qP keep ⟨n,t,h⟩ o=some ⟨n,t,h⟩:=by{simp only[qP,hh,hf,if_true]};rw[jS,e];exact k
theorem aaH(hh:h o=some (some rows))(hf:eC rows=false)(hc:dP (lR h keep) rows=some (aY,ids))(hn:(dV ids&& !ids.contains o)=true)(k:jS keep ol ⟨n,t,aZ h ((o,some aY)::ids.map fun i=>(i,none))⟩=y0):jS keep (o::ol) ⟨n,t,h⟩=y0:=by have e:qP keep ⟨n,t,h⟩ o=some ⟨n,t,aZ h ((o,some aY)::ids.map fun i=>(i,none))⟩:=by{simp only[qP,hh,hf,hc,hn,if_true];rfl};rw[jS,e];exact k
theorem PX(hf:cN r=false:=by exact rfl)(hc:dL (gC h keep) r=some (r',ids)):lR h keep r=some (r',ids):=by simp[lR,hf,hc]
theorem Q3{p:List U->Option (List U×List Id)}(e:rows=[]:=by exact rfl):dP p rows=some ([],[]):=by subst e;rfl
theorem Q4{p:List U->Option (List U×List Id)}{rs:Rows}{i1 i2:List Id}(e:rows=r::rs)(h1:p r=some (r',i1))(h2:dP p rs=some (aY,i2)):dP p rows=some (r'::aY,i1++i2):=by subst e;simp[dP,h1,h2]
theorem Ju{i:Id}{off len:Nat}{x:U}(hx:x= .rs i off len:=by exact rfl)(hk:keep i=true:=by exact rfl):gC h keep x=some (.rs i off len,[]):=by subst hx;simp[gC,hk]
theorem Jv{i:Id}{row off:Nat}{x:U}(hx:x= .mp i row off:=by exact rfl)(hk:keep i=true:=by exact rfl):gC h keep x=some (.mp i row off,[]):=by subst hx;simp[gC,hk]
theorem Jx{i:Id}{off len:Nat}{x x':U}(hx:x= .rs i off len:=by exact rfl)(hk:keep i=false:=by exact rfl)(hp:pk h 8 (.rs i off len)=some (x',ids)):gC h keep x=some (x',ids):=by subst hx;simp[gC,hk,hp]
theorem Jw{x:U}(hx:x= .ct:=by exact rfl):gC h keep x=some (.own [] 0,[]):=by subst hx;rfl
theorem LW:∀{l:List U},cN l=true->vD keep l=true|[],_=>rfl|a::l,hf=>by simp only[cN,GT]at hf;simp only[vD,PQ,GT];refine⟨?_,LW hf.2⟩;cases a<;>first|exact hf.1|(simp[flat]at hf)
theorem Ce{x:U}(hf:flat x=true):gC h keep x=some (x,[]):=by cases x with|fn k as cs=>(simp only[flat,GT]at hf;simp only[gC];rw[if_pos (by simp[LW hf.1,LW hf.2])])|rs _ _ _=>(simp[flat]at hf)|mp _ _ _=>(simp[flat]at hf)|mr _=>(simp[flat]at hf)|ct=>(simp[flat]at hf)|_=>simp only[gC];rw[if_pos hf]
theorem Jt{x:U}{k:Fn}{as cs:List U}(hx:x= .fn k as cs:=by exact rfl)(hk:(vD keep as&&vD keep cs)=true:=by exact rfl):gC h keep x=some (.fn k as cs,[]):=by subst hx;simp only[gC];rw[if_pos hk]
end
section
variable{α:Type}{c:α->List U}{q:List α}{k:Nat}{x x':α}{r r':List U}{ids:List Id}{keep:Id->Bool}{o:Id}{ol:List Id}{y0:Option ah}
end
theorem aaJ{keep:Id->Bool}{ol:List Id}{y0:Option ah}(k:jS keep ol ⟨n,t,h⟩=y0:=by repeat'(first|with_reducible exact amY|with_reducible exact aaD|(apply aaB;exact rfl;first|exact p7 _|exact rfl|exact JZ)|(apply amZ;exact rfl;exact rfl;(first|(with_reducible assumption)|assumption);exact inferInstance)|(apply aaH;exact rfl;exact rfl)|exact Q3|(apply Q4;exact rfl)|exact aa9|(apply PX;exact rfl)|exact Ju|exact Jv|exact PC|exact Jw|(apply PE;exact rfl;exact rfl;exact mW)|(apply Jx;exact rfl;exact rfl;exact mW)|(apply PD;exact rfl;exact rfl;exact mW)|(apply Ce;first|exact rfl|exact QS|exact QV|exact QT)|exact Jt|exact zZ|(apply CF;exact rfl)|exact aho rfl)):jS keep ol ⟨n,t,h⟩=y0:=k
/-! Names, one by one. -/
def SP:U->Bool| .fn _ as cs=> !(cN as&&cN cs)| .rs _ _ _=>true| .mp _ _ _=>true| .mr _=>true| .agg _=>true|_=>false
section
variable{L:Id->Option (Option Rows)}{m j:Nat}{p i:Id}{acc acc' oJ y l:List (Id×Id)}{a:U}{as cs er:List U}{S:ah}{s:Nat}{slots:List Nat}
theorem abh(hx:er=[])(e:acc=y):fF L m p j acc er=y:=by subst hx;cases m<;>exact e
theorem abp(hx:er=a::as)(hs:SP a=false)(k:fF L m p (j+1) acc as=y):fF L (m+1) p j acc er=y:=by subst hx;cases a with|fn f xs cs=>(simp only[SP,Bool.not_eq_false']at hs;simp only[fF,if_pos hs];exact k)|_=>first|exact k|cases hs
theorem Mm{i q:Id}(h:j3 i=false)(h2:j3 q=false):sx i q=q:=by simp[sx,h,h2]
theorem Mn{i q:Id}(h:j3 i=true):sx i q=i:=by simp[sx,h]
variable{nm:Id}
theorem abn{o n:Nat}(hx:er= .rs i o n::as)(hn:(gi acc i).isSome=false)(hm:sx i (j::p)=nm)(hl:acc++[(i,nm)]=acc')(k:fF L m p (j+1) acc' as=y):fF L (m+1) p j acc er=y:=by subst hx hl hm;simp only[fF,hn];exact k
theorem abo{o n:Nat}(hx:er= .rs i o n::as)(hn:(gi acc i).isSome=true)(k:fF L m p (j+1) acc as=y):fF L (m+1) p j acc er=y:=by subst hx;simp only[fF,hn];exact k
theorem abk{o n:Nat}(hx:er= .mp i o n::as)(hn:(gi acc i).isSome=false)(hh:L i=some (some [cs]))(hm:sx i (j::p)=nm)(hl:acc++[(i,nm)]=acc')(h1:fF L m (j::p) 0 acc' cs=oJ)(k:fF L m p (j+1) oJ as=y):fF L (m+1) p j acc er=y:=by subst hx hl h1 hm;simp only[fF,hn,hh];exact k
theorem abl{o n:Nat}(hx:er= .mp i o n::as)(hn:(gi acc i).isSome=true)(k:fF L m p (j+1) acc as=y):fF L (m+1) p j acc er=y:=by subst hx;simp only[fF,hn];exact k
theorem abf(hx:er= .agg cs::as)(h1:fF L m (j::p) 0 acc cs=oJ)(k:fF L m p (j+1) oJ as=y):fF L (m+1) p j acc er=y:=by subst hx h1;simp only[fF];exact k
theorem abj{f:Fn}{xs:List U}(hx:er= .fn f xs cs::as)(hf:(cN xs&&cN cs)=false)(h1:fF L m (j::p) 0 acc (xs++cs)=oJ)(k:fF L m p (j+1) oJ as=y):fF L (m+1) p j acc er=y:=by subst hx h1;simp only[fF,hf];exact k
theorem ahy(e:acc=l):H5 (fun acc s=>fF S.h 40 [s] 0 acc [S.t s]) acc []=l:=e
theorem ahx(h:fF S.h 40 [s] 0 acc [S.t s]=acc')(k:H5 (fun acc s=>fF S.h 40 [s] 0 acc [S.t s]) acc' slots=l):H5 (fun acc s=>fF S.h 40 [s] 0 acc [S.t s]) acc (s::slots)=l:=by subst h;exact k
theorem ahw{Vb:List Nat}(hs:slots=Vb)(h:H5 (fun acc s=>fF S.h 40 [s] 0 acc [S.t s]) [] Vb=l):names S slots=l:=by subst hs;exact h
theorem ahz(h:names S slots=l:=by((with_reducible apply ahw);exact spine);repeat'(first|((with_reducible apply ahy);exact rfl)|(with_reducible apply ahx)|((with_reducible apply abh);(with_reducible exact rfl);exact rfl)|((with_reducible apply abp);exact rfl;first|exact rfl|exact aoO|exact aoR)|((with_reducible apply abn);exact rfl;exact rfl;(first|exact Mm rfl rfl|exact Mn rfl|exact Tk rfl rfl spine);exact spine)|((with_reducible apply abo);exact rfl;exact rfl)|((with_reducible apply am3);exact rfl;exact rfl;(first|exact Mm rfl rfl|exact Mn rfl|exact Tk rfl rfl spine);exact spine)|((with_reducible apply am4);exact rfl;exact rfl)|((with_reducible apply abl);exact rfl;exact rfl)|((with_reducible apply abk);exact rfl;exact rfl;exact rfl;(first|exact Mm rfl rfl|exact Mn rfl|exact Tk rfl rfl spine);exact spine)|((with_reducible apply abf);exact rfl)|((with_reducible apply abj);exact rfl;exact rfl))):names S slots=l:=h
end
theorem ahH{t0 t1:Nat->U}{h0 h1:Id->Option (Option Rows)}{vs:List (Nat×U)}(e0:kF slots ⟨n,t,h⟩=⟨n,t0,h0⟩:=by exact ahK)(hn:names ⟨n,t0,h0⟩ slots=l:=by first|exact ahz|exact spine)(e1:jS (ua l) (l.map (·.1)) ⟨n,t0,h0⟩=some ⟨n,t1,h1⟩:=by exact aaJ)(hd:(dV (l.map (·.1))&&dV (l.map (·.2))&&l.all (fun x=> !j3 x.2||x.1==x.2))=true:=by exact rfl)(hh:qf h1 l l=some hl:=by exact hnk)(ht:oo l t1 slots=cT (fun _=> .bf) vs:=by exact ahh):norm ⟨n,t,h⟩ slots=some (fY n vs hl):=by subst hn;simp only[norm,DW,e0,e1,AC,uh,hd,if_true,hh,Hb,ht,fY]
theorem eU{o:Option (Bool×List Nat)}{vs:List (Nat×U)}(hk:o=some (true,slots):=by exact rfl)(hm:norm ⟨n,t,h⟩ slots=some (fY n vs hl):=by exact ahH):dr o ⟨n,t,h⟩=some (fY n vs hl):=by subst hk;exact hm
end
section
variable{C:aF}{f:FuncId}{call:fZ}{c:Code}{Q:Exit×ah->Prop}{n:Nat}{l:List (Nat×U)}{h:List (Id×Rows)}
theorem nM(k:W C f call c ⟨n,cT (fun _=> .bf) l,jB h⟩ Q):W C f call c (fY n l h) Q:=k
theorem vW{e:Exit}(k:Q (e,⟨n,cT (fun _=> .bf) l,jB h⟩)):Q (e,fY n l h):=k
end
section
variable{α:Type}{c c':α->List U}{q:List α}{as bs:List U}{L:Id->Option (Option Rows)}{n:Nat}
/-! Freezing -/
theorem ac7 [hc:BP c c']:dF (.own (q.map c) q.length)= .sl (q.map c'):=by have:kA (q.map c)=q.map c':=by{induction q with|nil=>(rfl)|cons x q ih=>simp[kA,hc.dF,ih]};simp only[dF,this];rw[IH (by simp)]
theorem ac3{a b:U}(h:dF a=b)(k:jV as=bs):jV (a::as)=b::bs:=by simp[jV,h,k]
theorem ac2(h:jV as=bs):dF (.agg as)= .agg bs:=by simp[dF,h]
theorem ada(h:jV as=bs):dF (.aU as)= .aU bs:=by simp[dF,h]
theorem ac8(h:jV as=bs):dF (.aP as)= .ay bs:=by simp[dF,h]
theorem CL{a b:U}(h:dF a=b:=by repeat'(first|exact(rfl:dF (.val _)= .val _)|exact ac4|exact ac9|exact ac7|exact anL|exact(rfl:dF (.sl _)= .sl _)|apply ac2|apply ada|apply ac8|exact(rfl:jV []=[])|apply ac3|exact rfl)):dF a=b:=h
end
/-! ### Memory of one's own -/
def app{α:Type}(a b:List α):Option (List α):=if a.length+b.length<=4294967296 then some (a++b)else none
theorem Jb{α:Type}{a b r:List α}(h:app a b=some r):a.length+b.length<=4294967296∧r=a++b:=by unfold app at h;split at h;·{exact⟨‹_›,by simpa using h.symm⟩};·cases h
def mg{α:Type}(n:Int)(z:α):Option (List α):=if 0<=n∧n<=4294967296 then some (Hn n.toNat z)else none
theorem UR{α:Type}{c:α->List U}{q:List α}[hc:qH c]:sH (q.map c)=true:=by simp only[sH,Ix,Hk];exact fun x _=>hc.ce x
section
variable{C:aF}{f:FuncId}{call:fZ}{S:ah}{g:Bool}
variable{d:Nat}{ty:TypeId}{pos:String}{aQ:Array Edge}{bn:Option (Nat×Bool)}{v v':U}
variable{x y z:Operand}{k:IntKind}{a b:Int}{T aC:TypeId}
theorem bZ{cs:List U}[hz:k6 C T cs](hn:S.h [d]=none:=by exact rfl)(kD:C.wA f d=[]:=by exact rfl):bk C f call S g ⟨some d, .alloc T,ty,pos,aQ,bn⟩=some ⟨[(d, .mp [d] 0 0)],[],[([d],some [cs])]⟩:=by show tw C f S _ T=_;simp[tw,hz.V2,hn,kD,wB]
theorem qv{bb:Bool}{m:Nat}{cs:List U}[ha:cI C T bb m](hin:(C.eI f).contains d=false:=by exact rfl)(hx:un g (S.get C x)=v:=by exact gt)(hc:oL bb v=some cs:=by exact rfl)(hn:S.h [d]=none:=by exact rfl):bk C f call S g ⟨some d, .box T x,ty,pos,aQ,bn⟩=some ⟨[(d, .mp [d] 0 0)],[],[([d],some [cs])]⟩:=by show qR C f S _ T (un g (S.get C x))=_;simp only[qR,ha.kK,hx,hc,eX,hin,RK,GE,if_false];rw[if_pos (Sv hn)];rfl
theorem cn{i off off' row m:Nat}{bb:Bool}{id:Id}[hf:Fd C T i off m bb](hx:un g (S.get C x)= .mp id row off':=by first|exact rfl|exact bG)(h0:Do 0 m=true:=by exact rfl):bk C f call S g ⟨some d, .fieldAddr T x i,ty,pos,aQ,bn⟩=some ⟨[(d, .mp id row (off'+off))],[],[]⟩:=by show r3 C f _ T i (un g (S.get C x))=_;have h0':0<m:=of_decide_eq_true (lO h0);simp[r3,hf.fd,hx,h0']
theorem L6{bb:Bool}{m row off:Nat}{id:Id}{rows:Rows}{r cs:List U}(ha:lA C T=some bb)(hs:hG C T=some m)(hx:un g (S.get C x)= .mp id row off)(hh:S.h id=some (some rows))(hr:rows[row]? =some r)(hl:Ha (off+m) r.length=true)(hc:bJ [d] 0 ((r.drop off).take m)=(cs,[]))(hv:jh bb cs=some v):bk C f call S g ⟨some d, .load T x,ty,pos,aQ,bn⟩=some ⟨[(d,v)],[id],[]⟩:=by show lU C S _ T (un g (S.get C x))=_;rw[hx];have hl':off+m<=r.length:=Hc hl;simp only[lU,ha,hs,hh,hr,AC,if_pos hl',ja,hc,hv,List.isEmpty_nil,if_true,Hb];rfl
theorem SO{bb:Bool}{m row off:Nat}{id:Id}{rows:Rows}{r cs:List U}{w:Id×Option Rows}{wr:List (Id×Option Rows)}(ha:lA C T=some bb)(hs:hG C T=some m)(hx:un g (S.get C x)= .mp id row off)(hh:S.h id=some (some rows))(hr:rows[row]? =some r)(hl:Ha (off+m) r.length=true)(hc:bJ [d] 0 ((r.drop off).take m)=(cs,w::wr))(hf:fresh S.h (w::wr)=true)(hv:jh bb cs=some v):bk C f call S g ⟨some d, .load T x,ty,pos,aQ,bn⟩=some ⟨[(d,v)],[id],(id,some (rows.set row (r.take off++cs++r.drop (off+m))))::w::wr⟩:=by show lU C S _ T (un g (S.get C x))=_;rw[hx];have hl':off+m<=r.length:=Hc hl;simp only[lU,ha,hs,hh,hr,AC,if_pos hl',ja,hc,hv,PP,GE,if_false,hf,if_true,Hb];rfl
theorem yx{m row off:Nat}{id:Id}{α:Type}{c:α->List U}{q:List α}{r:α}{cs:List U}(hr:q[row]? =some r)[ha:cI C T false m](hx:un g (S.get C x)= .mp id row off:=by first|exact rfl|exact bG)(hh:S.h id=some (some (q.map c)):=by exact rfl)(hm:m=1:=by exact rfl)(hv:(c r).drop off=v::cs:=by exact rfl)(hu:bJ [d] 0 [v]=([v],[]):=by first|exact rfl|exact N5):bk C f call S g ⟨some d, .load T x,ty,pos,aQ,bn⟩=some ⟨[(d,v)],[id],[]⟩:=by subst hm;refine L6 (rows:=q.map c) (r:=c r) (cs:=[v]) ha.kK ha.sz hx hh (by simp[hr]) ?_ (by rw[hv];exact hu) rfl;have:=congrArg List.length hv;simp only[If,R0]at this;apply Sp;omega
theorem cx{m off:Nat}{id:Id}{r cs:List U}[ha:cI C T false m](hx:un g (S.get C x)= .mp id 0 off:=by first|exact rfl|exact bG)(hh:S.h id=some (some [r]):=by exact rfl)(hm:m=1:=by exact rfl)(hv:r.drop off=v::cs:=by exact rfl)(hu:bJ [d] 0 [v]=([v],[]):=by first|exact rfl|exact N5):bk C f call S g ⟨some d, .load T x,ty,pos,aQ,bn⟩=some ⟨[(d,v)],[id],[]⟩:=by subst hm;refine L6 (rows:=[r]) (r:=r) (cs:=[v]) ha.kK ha.sz hx hh rfl ?_ (by rw[hv];exact hu) rfl;have:=congrArg List.length hv;simp only[If,R0]at this;apply Sp;omega
theorem sA{m off:Nat}{id:Id}{r cs cs0:List U}[ha:cI C T true m](hx:un g (S.get C x)= .mp id 0 off:=by first|exact rfl|exact bG)(hh:S.h id=some (some [r]):=by exact rfl)(hl:Ha (off+m) r.length=true:=by exact rfl)(hv:(r.drop off).take m=cs0:=by exact spine)(hu:bJ [d] 0 cs0=(cs,[]):=by exact y5):bk C f call S g ⟨some d, .load T x,ty,pos,aQ,bn⟩=some ⟨[(d, .agg cs)],[id],[]⟩:=L6 (rows:=[r]) (r:=r) ha.kK ha.sz hx hh rfl hl (by rw[hv];exact hu) rfl
theorem Mt{m off:Nat}{id:Id}{r r' cs cs0:List U}{w:Id×Option Rows}{wr:List (Id×Option Rows)}[ha:cI C T false m](hx:un g (S.get C x)= .mp id 0 off:=by first|exact rfl|exact bG)(hh:S.h id=some (some [r]):=by exact rfl)(hm:m=1:=by exact rfl)(hl:Ha (off+1) r.length=true:=by exact rfl)(hv:(r.drop off).take 1=cs0:=by exact spine)(hu:bJ [d] 0 cs0=(cs,w::wr):=by exact y5)(Ah:cs=[v]:=by exact rfl)(hq:r.take off++cs++r.drop (off+1)=r':=by exact spine)(hf:fresh S.h (w::wr)=true:=by exact rfl):bk C f call S g ⟨some d, .load T x,ty,pos,aQ,bn⟩=some ⟨[(d,v)],[id],(id,some [r'])::w::wr⟩:=by subst hm hq;exact SO (rows:=[r]) (r:=r) ha.kK ha.sz hx hh rfl hl (by rw[hv];exact hu) hf (by rw[Ah];rfl)
def Ip(L:List Nat):Operand->Bool| .tmp ta=>L.contains ta|_=>false
theorem Ri{a:Operand}(hin:Ip (C.eI f) a=false):xu C f a=none:=by cases a with|tmp ta=>(simp only[Ip]at hin;unfold xu;simp only;rw[if_neg (by rw[hin];simp)])|_=>rfl
theorem dx{bb:Bool}{m ta:Nat}{id:Id}{cs cs' r:List U}[ha:cI C T bb m](hin:(C.eI f).contains ta=true:=by exact rfl)(hx:un true (S.get C (.tmp ta))= .mp id 0 0:=by exact rfl)(hy:un true (S.get C y)=v:=by exact gt)(hc:oL bb v=some cs:=by exact rfl)(bU:cs.length=m:=by exact rfl)(hh:S.h id=some (some [r]):=by exact rfl)(hr:r.length=m:=by exact rfl)(hz:lC cs=cs':=by exact spine)(hi:dZ cs'=true:=by exact rfl):bk C f call S true ⟨none, .store T (.tmp ta) y,ty,pos,aQ,bn⟩=some ⟨[(ta, .ay cs')],[id],[(id,none)]⟩:=by show oP C f S true _ T (.tmp ta) (un true (S.get C (.tmp ta))) (un true (S.get C y))=_;rw[hx,hy];have e:xu C f (.tmp ta)=some ta:=by{unfold xu;simp only;rw[if_pos hin]};subst hz;simp[oP,ha.kK,ha.sz,hc,bU,hh,hr,e,hi]
theorem aV{bb:Bool}{m off:Nat}{ao:Operand}{id:Id}{cs r r':List U}[ha:cI C T bb m](hin:Ip (C.eI f) ao=false:=by exact rfl)(hx:un g (S.get C ao)= .mp id 0 off:=by exact rfl)(hy:un g (S.get C y)=v:=by exact gt)(hc:oL bb v=some cs:=by exact rfl)(bU:cs.length=m:=by exact rfl)(hh:S.h id=some (some [r]):=by exact rfl)(hl:Ha (off+m) r.length=true:=by exact rfl)(hq:r.take off++cs++r.drop (off+m)=r':=by exact spine):bk C f call S g ⟨none, .store T ao y,ty,pos,aQ,bn⟩=some ⟨[],[id],[(id,some [r'])]⟩:=by show oP C f S g _ T ao (un g (S.get C ao)) (un g (S.get C y))=_;rw[hx,hy];have hl':off+m<=r.length:=Hc hl;have e:=Ri (f:=f) hin;subst hq;simp only[oP,ha.kK,ha.sz,hc];rw[if_neg (by simp[bU]),hh];simp only[T1,AC,if_pos hl',e];rfl
theorem aaZ{e:Option Int}:oL false (iO e)=some [iO e]:=by cases e<;>rfl
theorem mT{bb:Bool}{m row off:Nat}{ao:Operand}{id:Id}{cs:List U}{α:Type}{c:α->List U}{q:List α}{r:α}(hr:q[row]? =some r)(r':α)[ha:cI C T bb m](hin:Ip (C.eI f) ao=false:=by exact rfl)(hx:un g (S.get C ao)= .mp id row off:=by exact rfl)(hy:un g (S.get C y)=v:=by exact gt)(hc:oL bb v=some cs:=by first|exact rfl|exact aaZ)(bU:cs.length=m:=by exact rfl)(hh:S.h id=some (some (q.map c)):=by exact rfl)(hl:Ha (off+m) (c r).length=true:=by exact rfl)(hq:(c r).take off++cs++(c r).drop (off+m)=c r':=by exact rfl):bk C f call S g ⟨none, .store T ao y,ty,pos,aQ,bn⟩=some ⟨[],[id],[(id,some ((q.set row r').map c))]⟩:=by show oP C f S g _ T ao (un g (S.get C ao)) (un g (S.get C y))=_;rw[hx,hy];have hl':off+m<=(c r).length:=Hc hl;have e:=Ri (f:=f) hin;have e2:(q.map c)[row]? =some (c r):=by{simp[hr]};simp only[oP,ha.kK,ha.sz,hc];rw[if_neg (by simp[bU]),hh];simp only[e2,AC,if_pos hl',e];rw[hq,List.map_set];rfl
theorem jj{e:TypeId}{m n:Nat}{bb:Bool}{α:Type}{c:α->List U}{q:List α}{i:Int}{r:α}{id:Id}(hi:idx q i=some r)[hu:cY C T (.slice e)][hs:cI C e bb m](hx:un g (S.get C x)= .rs id 0 n:=by first|exact rfl|exact bG)(hh:S.h id=some (some (q.map c)):=by exact rfl)(hl:n=q.length:=by exact ue)(hy:un g (S.get C y)= .val (.int k i):=by first|exact rfl|exact bG)(hr:(c r).length=m:=by exact rfl):bk C f call S g ⟨some d, .indexAddr T x y,ty,pos,aQ,bn⟩=some ⟨[(d, .mp id i.toNat 0)],[id],[]⟩:=by show nq C S _ T (un g (S.get C x)) (en (un g (S.get C y)))=_;have hb:=AB hi;have hn:=gE hi;subst hl;simp only[hx,hy,en,nq,hu.ul,hs.sz];rw[if_pos hb,hh];simp[hn,hr]
section
variable{α:Type}{c:α->List U}{q q' r:List α}{id fU:Id}{e:TypeId}{m n n':Nat}{T aC:TypeId}
abbrev B5:= @nY
theorem Zg{rx:U}{xs ys:Rows}{i1 i2:List Id}(hok:B6 C e m=true)(hu:C.P.underlying T=some (.slice e))(hu1:C.P.underlying aC=some (.slice e))(hx:un g (S.get C x)=rx)(vv:rowsOf S.h rx=some (xs,i1))(hy:rowsOf S.h (un g (S.get C y))=some (ys,i2))(hl:ys.all (·.length==m)=true)(hcell:sH ys=true)(hlen:xs.length+ys.length<=qp)(hn:S.h [d]=none){zR:bh}(he:B5 S ⟨some d, .call ⟨.builtin .append,⟨[x,y]⟩,⟨[T,aC]⟩⟩,ty,pos,aQ,bn⟩ d m rx xs ys i1 i2=some zR):n6 C S ⟨some d, .call ⟨.builtin .append,⟨[x,y]⟩,⟨[T,aC]⟩⟩,ty,pos,aQ,bn⟩ ⟨[T,aC]⟩ ([x,y].map fun x=>un g (S.get C x))=some zR:=by unfold B6 at hok;split at hok;·{rename_i inf KW;simp only[GT,beq_iff_eq,decide_eq_true_eq]at hok;obtain⟨⟨⟨k1,k2⟩,cO⟩,gb⟩:=hok;subst k1;have e1:(#[T,aC]:Array TypeId)[0]? =some T:=rfl;have e2:(#[T,aC]:Array TypeId)[1]? =some aC:=rfl;simp only[Hm,H3,n6,e1,e2,AC,hu1,zz,hu,KW,hx,vv,hy];rw[if_pos (by simp only[GT,decide_eq_true_eq];exact⟨⟨⟨⟨⟨⟨hl,k2⟩,cO⟩,gb⟩,hlen⟩,hcell⟩,by rw[hn];rfl⟩)];unfold B5 at he;exact he};·cases hok
theorem Pa{rx:U}{xs ys:Rows}{i1 i2:List Id}(hok:B6 C e m=true)(hu:C.P.underlying T=some (.slice e))(hu1:C.P.underlying aC=some (.slice e))(hx:un g (S.get C x)=rx)(vv:rowsOf S.h rx=some (xs,i1))(hy:rowsOf S.h (un g (S.get C y))=some (ys,i2))(hl:ys.all (·.length==m)=true)(hcell:sH ys=true)(hlen:xs.length+ys.length<=qp)(hn:S.h [d]=none)(hfz:(C.eI f).contains d=false){zR:bh}(he:B5 S ⟨some d, .call ⟨.builtin .append,⟨[x,y]⟩,⟨[T,aC]⟩⟩,ty,pos,aQ,bn⟩ d m rx xs ys i1 i2=some zR):bk C f call S g ⟨some d, .call ⟨.builtin .append,⟨[x,y]⟩,⟨[T,aC]⟩⟩,ty,pos,aQ,bn⟩=some zR:=by show(n6 C S _ _ ([x,y].map fun x=>un g (S.get C x))).bind (tG C f _)=_;have key:n6 C S ⟨some d, .call ⟨.builtin .append,⟨[x,y]⟩,⟨[T,aC]⟩⟩,ty,pos,aQ,bn⟩ ⟨[T,aC]⟩ ([x,y].map fun x=>un g (S.get C x))=some zR:=Zg hok hu hu1 hx vv hy hl hcell hlen hn he;rw[key];simp only[AC,tG,eX,hfz,GE,if_false]
theorem akB{L:Id->Option (Option Rows)}(hh:L id=some (some (q.map c))):rowsOf L (.rs id 0 q.length)=some (q.map c,[id]):=by show(match L id with|some (some rs)=>if 0+q.length<=rs.length then some ((rs.drop 0).take q.length,[id])else none|_=>none)=_;rw[hh];simp only;rw[if_pos (by simp),H0,IH (by simp)]
theorem sy(hr:app q q'=some r)[hu:cY C T (.slice e)][hu1:cY C aC (.slice e)][hok:rJ C e m](hx:un g (S.get C x)= .rs id 0 n:=by exact rfl)(hh:S.h id=some (some (q.map c)):=by exact rfl)(hlen:n=q.length:=by exact ue)(hy:un g (S.get C y)= .sl (q'.map c):=by exact rfl)(hl:∀x,(c x).length=m:=by exact fun _=>rfl)(hcell:sH (q'.map c)=true:=by first|exact UR|exact rfl)(hn:S.h [d]=none:=by exact rfl)(hfz:(C.eI f).contains d=false:=by exact rfl):bk C f call S g ⟨some d, .call ⟨.builtin .append,⟨[x,y]⟩,⟨[T,aC]⟩⟩,ty,pos,aQ,bn⟩=some ⟨[(d, .rs [d] 0 r.length)],[id],[(id,none),([d],some (r.map c))]⟩:=by obtain⟨h1,rfl⟩:=Jb hr;subst hlen;refine Pa hok.ao hu.ul hu1.ul hx (akB hh) (by rw[hy];rfl) (B2 hl) hcell (by simpa[qp]using h1) hn hfz ?_;simp only[B5,nY,hh];rw[if_pos (by simp only[GT];refine⟨⟨B2 hl,by simp⟩, ?_⟩;cases q<;>simp)];simp[put,T2]
end
theorem D2{e:TypeId}{m:Nat}{α:Type}{c:α->List U}{cL:α}{gp:List U}{nn:Int}{r:List α}(hr:mg nn cL=some r)(Lz:c cL=gp)[hu:cY C T (.slice e)][hok:rJ C e m][hz:k6 C e gp](hx:un g (S.get C x)= .val (.int k nn):=by exact rfl)(hy:un g (S.get C y)= .val (.int k nn):=by exact rfl)(hzl:gp.length=m:=by exact rfl)(hn:S.h [d]=none:=by exact rfl):bk C f call S g ⟨some d, .makeSlice T x y,ty,pos,aQ,bn⟩=some ⟨[(d, .rs [d] 0 r.length)],[],[([d],some (r.map c))]⟩:=by show tC C S _ T (un g (S.get C x)) (un g (S.get C y))=_;unfold mg at hr;split at hr;·{rename_i hp;obtain rfl:Hn nn.toNat cL=r:=by{simpa using hr};have hok:=hok.ao;unfold B6 at hok;split at hok;·{rename_i inf KW;simp only[Bool.and_eq_true,beq_iff_eq,decide_eq_true_eq]at hok;obtain⟨⟨⟨k1,k2⟩,cO⟩,gb⟩:=hok;simp only[hx,hy,tC,hu.ul,en,hz.V2,KW];rw[if_pos (by simp only[Bool.and_eq_true,decide_eq_true_eq];exact⟨⟨⟨⟨by omega,by omega⟩,cO⟩,by omega⟩,by rw[hn];rfl⟩)];simp[put,Lz]};·cases hok};·cases hr
theorem ZU{e:TypeId}{bb:Bool}{m len:Nat}{gp:List U}{ps:List (Nat×U)}{rows:Rows}(hu:C.P.underlying T=some (.slice e))(hz:y9 C e=some gp)(ha:lA C e=some bb)(hs:hG C e=some m)(h0:(decide (0<m)&&decide (m=gp.length)&&decide (len*m<=1000))=true)(hf:tE m bb (Hn len gp) ps=some rows):zD C T len ps=some rows:=by simp only[zD,hu,hz,ha,hs,h0,if_true,hf]
theorem jC{e:TypeId}{bb:Bool}{m len:Nat}{gp:List U}{p:List (Nat×Operand)}{ps:List (Nat×U)}{rows aY:Rows}[hu:cY C T (.slice e)][hz:jQ C e gp][ha:cI C e bb m](hin:(C.eI f).contains d=true:=by exact rfl)(h0:(decide (0<m)&&decide (m=gp.length)&&decide (len*m<=1000))=true:=by exact rfl)(hq:(p.map fun p=>(p.1,un g (S.get C p.2)))=ps:=by exact HV)(hf:tE m bb (Hn len gp) ps=some rows:=by exact rfl)(AA:rows.map lC=aY:=by exact spine)(hi:j0 aY=true:=by exact rfl):bk C f call S g ⟨some d, .buildSlice T len ⟨p⟩,ty,pos,aQ,bn⟩=some ⟨[(d, .sl aY)],[],[]⟩:=by show qS C f S _ T len (p.map fun p=>(p.1,un g (S.get C p.2)))=_;rw[hq];have hb:=ZU hu.ul hz.gp ha.kK ha.sz h0 hf;unfold qS;rw[if_neg (by simp[Jl,hb,AA,hi])];simp only[tA,hu.ul,hz.gp,ha.kK,ha.sz,h0,if_true,hf,eX,hin,AA,hi,QP];rfl
theorem DZ{e:TypeId}{bb:Bool}{m len:Nat}{gp:List U}{p:List (Nat×Operand)}{ps:List (Nat×U)}{rows aY:Rows}[hu:cY C T (.slice e)][hz:jQ C e gp][ha:cI C e bb m](hin:(C.eI f).contains d=false:=by exact rfl)(h0:(decide (0<m)&&decide (m=gp.length)&&decide (len*m<=1000))=true:=by exact rfl)(hq:(p.map fun p=>(p.1,un g (S.get C p.2)))=ps:=by exact HV)(hf:tE m bb (Hn len gp) ps=some rows:=by exact rfl)(hs:rows=aY:=by exact spine)(hn:S.h [d]=none:=by exact rfl):bk C f call S g ⟨some d, .buildSlice T len ⟨p⟩,ty,pos,aQ,bn⟩=some ⟨[(d, .rs [d] 0 len)],[],[([d],some aY)]⟩:=by show qS C f S _ T len (p.map fun p=>(p.1,un g (S.get C p.2)))=_;subst hs;rw[hq];unfold qS;rw[if_neg (by simp[Jl,eX];intro h;simp[h]at hin)];simp only[tA,hu.ul,hz.gp,ha.kK,ha.sz,h0,if_true,hf,eX,hin,RK,GE,if_false];rw[if_pos (Sv hn)];rfl
/-! ### Calls -/
section
variable{L:Id->Option (Option Rows)}{n m:Nat}{α:Type}{c c':α->List U}{q:List α}{id:Id}{as bs cs cs':List U}{is i2:List Id}{x u:U}
theorem Pw{a:U}(h:fA a=true):bT L (n+1) a=some (a,[]):=by cases a with|agg cs=>(simp only[fA]at h;simp[bT,gv,h])|aU cs=>(simp only[fA]at h;simp[bT,gv,h])|fn k a b=>(simp only[fA,GT]at h;simp[bT,gv,h])|_=>first|rfl|simp[fA]at h
theorem Pv{w:Value}(hx:x= .val w:=by exact rfl):bT L (n+1) x=some (.val w,[]):=by rw[hx];rfl
theorem Pu{r:Rows}(hx:x= .sl r:=by exact rfl):bT L (n+1) x=some (.sl r,[]):=by rw[hx];rfl
theorem Z4(hx:x= .ct:=by exact rfl):bT L (n+1) x=some (.sl [],[]):=by rw[hx];rfl
theorem Pn{t:TypeId}{e:dn}(hx:x=gH t e:=by first|exact rfl|exact Is):bT L (n+1) x=some (gH t e,[]):=by rw[hx];exact Pw (abM e)
theorem Z1(hx:x=u:=by exact gt)(hi:fA u=true:=by exact rfl):bT L (n+1) x=some (u,[]):=by rw[hx];exact Pw hi
theorem Z9 [hc:qH c](hx:x= .rs id 0 m:=by exact rfl)(hh:L id=some (some (q.map c)):=by exact rfl)(hl:m=q.length:=by exact ue):bT L (n+1) x=some (.sl (q.map c),[id]):=by subst hx hl;have hi':j0 (q.map c)=true:=by{simp only[j0,Ix,Hk];exact fun x _=>hc.im x};have e:((q.map c).drop 0).take q.length=q.map c:=by{rw[H0,IH (by simp)]};have e0:bT L (n+1) (.rs id 0 q.length)=match L id with|some (some rs)=>if 0+q.length<=rs.length then(lP (bT L n) ((rs.drop 0).take q.length)).map fun x=>(.sl x.1,id::x.2)else none|_=>none:=rfl;rw[e0,hh];simp only;rw[if_pos (by simp),e];simp[lP,hi']
theorem Z3(hx:x= .mp id 0 0)(hh:L id=some (some [cs]))(hi:dZ cs=false)(h:dL (bT L n) cs=some (cs',is)):bT L (n+1) x=some (.ay cs',id::is):=by subst hx;have e0:bT L (n+1) (.mp id 0 0)=match L id with|some (some rs)=>(match rs[0]? with|some r=>if 0<=r.length then(gv (bT L n) (r.drop 0)).map fun x=>(.ay x.1,id::x.2)else none|none=>none)|_=>none:=rfl;rw[e0,hh];simp[gv,hi,h]
theorem Pp{rows:Rows}(hx:x= .ef rows:=by exact rfl):bT L (n+1) x=some (.im rows,[]):=by subst hx;rfl
theorem ZW(hx:x= .agg cs)(hi:dZ cs=false)(h:dL (bT L n) cs=some (cs',is)):bT L (n+1) x=some (.agg cs',is):=by subst hx;simp[bT,gv,hi,h]
theorem Po [hc:qH c](hx:x= .own (q.map c) q.length:=by exact rfl):bT L (n+1) x=some (.sl (q.map c),[]):=by have hi':j0 (q.map c)=true:=by{simp only[j0,Ix,Hk];exact fun x _=>hc.im x};subst hx;simp only[bT];rw[IH (by simp)];simp[lP,hi']
end
/-! ### Borrowing lists whose elements own memory -/
class zb{α:Type}(c:α->List U)(c':outParam (α->List U)):Prop where bT:∀L n x,dL (bT L (n+2)) (c x)=some (c' x,[])Ti:∀x,dZ (c x)=false
section
variable{L:Id->Option (Option Rows)}{n m:Nat}{α:Type}{c c':α->List U}{q:List α}{k:Nat}{x x':α}{r r':List U}{id:Id}{ids:List Id}{v:U}
theorem ZY [hb:zb c c'](x:α):gv (bT L (n+2)) (c x)=some (c' x,[]):=by simp[gv,hb.Ti,hb.bT]
theorem Q7 [hb:zb c c']:∀q:List α,dP (gv (bT L (n+2))) (q.map c)=some (q.map c',[])|[]=>rfl|x::q=>by simp[dP,ZY (c:=c) (c':=c') x,Q7 q]
theorem Pr [hb:zb c c'](q:List α):lP (bT L (n+2)) (q.map c)=some (q.map c',[]):=by unfold lP;cases q with|nil=>(simp[j0])|cons x q=>rw[if_neg (by simp[j0,hb.Ti])];exact Q7 _
theorem aaa [hb:zb c c'](hx:v= .rs id 0 m:=by exact rfl)(hh:L id=some (some (q.map c)):=by exact rfl)(hm:m<=q.length:=by exact yl):bT L (n+3) v=some (.sl ((q.take m).map c'),[id]):=by subst hx;have e:bT L (n+3) (.rs id 0 m)=match L id with|some (some rs)=>if 0+m<=rs.length then(lP (bT L (n+2)) ((rs.drop 0).take m)).map fun x=>(.sl x.1,id::x.2)else none|_=>none:=rfl;rw[e,hh];simp only[H4,Nat.zero_add,if_pos hm,H0];rw[<-Kd,Pr];rfl
theorem Z5 [hb:zb c c'](hx:v= .own (q.map c) m:=by exact rfl):bT L (n+3) v=some (.sl ((q.take m).map c'),[]):=by subst hx;have e:bT L (n+3) (.own (q.map c) m)=(lP (bT L (n+2)) ((q.map c).take m)).map fun x=>(.sl x.1,x.2):=rfl;rw[e,<-Kd,Pr];rfl
end
section
variable{α:Type}{c c':α->List U}{q:List α}{L:Id->Option (Option Rows)}{n:Nat}{id:Id}{as bs cs cs':List U}{x:U}{is i2:List Id}
theorem ZX:gv (bT L n) []=some ([],[]):=by simp[gv,dZ]
theorem ZZ{cs cs':List U}{is:List Id}(hi:dZ cs=false)(h:dL (bT L n) cs=some (cs',is)):gv (bT L n) cs=some (cs',is):=by simp[gv,hi,h]
theorem Z0{k:Fn}{as bs as' bs':List U}{i1 i2:List Id}(hx:x= .fn k as bs)(h1:gv (bT L n) as=some (as',i1))(h2:gv (bT L n) bs=some (bs',i2)):bT L (n+1) x=some (.fn k as' bs',i1++i2):=by subst hx;simp[bT,h1,h2]
theorem Jo{y:Option (U×List Id)}(h:bT L n x=y:=by repeat'(first|exact Pv|exact ZX|exact amK|(apply ZZ;exact rfl)|exact Pn|exact Z8|exact Pu|exact Z9|exact amQ|exact amT|exact aaa|(apply amR;exact rfl;exact rfl;exact rfl;(first|(with_reducible assumption)|assumption);exact ue;exact inferInstance;rotate_left;exact rfl)|(apply amS;exact rfl;exact rfl;exact rfl;(first|(with_reducible assumption)|assumption);exact yl;exact inferInstance;rotate_left;exact rfl)|exact Z1|exact Z7|exact Z4|exact amL|exact amP|exact Po|exact amO|exact Z6|exact Z5|exact amN|exact amM|exact Pp|exact Z2|exact zZ|(apply CF;exact rfl)|(apply ZW;exact rfl;exact rfl)|(apply Z3;exact rfl;exact rfl;exact rfl)|(apply Z0;exact rfl))):bT L n x=y:=h
theorem acq{p:U->Option (U×List Id)}{cs as bs:List U}{a b:U}(hx:cs=a::as)(h:p a=some (b,[]))(k:dL p as=some (bs,[])):dL p cs=some (b::bs,[]):=by subst hx;simp[dL,h,k]
theorem aab{cs cs':List U}(h:dL (bT L n) cs=some (cs',[]):=by repeat'(first|exact zZ|(apply acq;exact rfl)|exact Pv|exact Pn|exact Z8|exact Pu|exact Z7|exact Po|exact Z6|exact Pp|exact Z2)):dL (bT L n) cs=some (cs',[]):=h
theorem ZR(h:as=[]:=by exact rfl):rT L as=some ([],[]):=by subst h;rfl
theorem ZQ{a b:U}{z:List Id}(ha:cs=a::as)(h1:bT L 9 a=some (b,is))(h2:rT L as=some (bs,i2))(hz:is++i2=z):rT L cs=some (b::bs,z):=by subst ha hz;unfold rT at*;simp[dL,h1,h2]
theorem blk{y:Option (List U×List Id)}(h:rT L as=y:=by repeat'(first|exact ZR|(apply ZQ;exact rfl;exact Jo)|exact rfl)):rT L as=y:=h
theorem aln{ms:List Nat}(h:as=[]:=by exact rfl):kg L ms as=some ([],[],[],[]):=by subst h;cases ms<;>rfl
section
variable{ms:List Nat}{a b b':U}{i s t z:List Id}
theorem alm{u:List Id}(ha:cs=a::as)(h:pk L 9 a=some (b,i))(k:kg L ms as=some (bs,s,t,z))(hu:i++t=u):kg L (1::ms) cs=some (b::bs,s,u,z):=by subst ha hu;simp[kg,k,h]
theorem alo{u:List Id}(ha:cs=a::as)(h:bT L 9 a=some (b,i))(k:kg L ms as=some (bs,s,t,z))(hu:i++s=u):kg L (0::ms) cs=some (b::bs,u,t,z):=by subst ha hu;simp[kg,k,h]
end
theorem Vo{ms:List Nat}{y:Option (List U×List Id×List Id×List Id)}(h:kg L ms as=y:=by repeat'(first|exact aln|(apply alm;exact rfl;exact mW)|(apply alo;exact rfl;exact Jo)|(apply aqi;exact rfl;exact mW;exact CL)|(apply aqj;exact rfl;exact Jo)|exact rfl)):kg L ms as=y:=h
/-! Nothing from elsewhere -/
end
section
variable{aI:Operand}{ts:Array TypeId}{c9:FuncId}{as bs cs args:List U}{seen:List Id}{r:U}{wr:List (Id×Option Rows)}{xs:Array Operand}
theorem Gp(hfo:un g (S.get C aI)= .fn (.func c9) as bs)(dR:C.gT c9=false):oa C (un g (S.get C aI))=none:=by rw[hfo];simp[oa,dR]
theorem FY{d':Option Tmp}(h:oa C (un g (S.get C aI))=none):bk C f call S g ⟨d', .call ⟨.value aI,xs,ts⟩,ty,pos,aQ,bn⟩=(match pathOf C aI with|some p=>u9 S ⟨d', .call ⟨.value aI,xs,ts⟩,ty,pos,aQ,bn⟩ p (xs.toList.map fun x=>un g (S.get C x))|none=>if yT C aI then(match(generalizing:=false)aI with| .func k=>rU C f call S ⟨d', .call ⟨.value aI,xs,ts⟩,ty,pos,aQ,bn⟩ k (xs.toList.map fun x=>un g (S.get C x))|_=>none)else qN C f call S ⟨d', .call ⟨.value aI,xs,ts⟩,ty,pos,aQ,bn⟩ (un g (S.get C aI)) (xs.toList.map fun x=>un g (S.get C x))):=by show(match oa C (un g (S.get C aI))with|some x=>qO C f call S _ x.1 (x.2.1++(xs.toList.map fun x=>un g (S.get C x))++x.2.2)|none=>_)=_;rw[h];first|rfl|(cases aI<;>rfl)
theorem cc(hc:call c9 args=some (r,[]))(hfo:un g (S.get C aI)= .fn (.func c9) as bs:=by exact rfl)(hb:rT S.h (as++(xs.toList.map fun x=>un g (S.get C x))++bs)=some (args,seen):=by exact blk)(hm:(seen.isEmpty||mine r)=true:=by first|exact rfl|exact Md)(hz:(C.eI f).contains d=false:=by exact rfl)(hi:imp [d] r=(v',wr):=by exact x6)(hf:fresh S.h wr=true:=by exact rfl)(ht:yT C aI=false:=by exact rfl)(nA:pathOf C aI=none:=by exact rfl)(hlk:C.look c9=false:=by exact rfl)(dR:C.gT c9=false:=by exact rfl):bk C f call S g ⟨some d, .call ⟨.value aI,xs,ts⟩,ty,pos,aQ,bn⟩=some ⟨[(d,v')],seen,wr⟩:=by rw[FY (Gp hfo dR)];rw[nA];simp only;rw[ht];simp only[GE,if_false];rw[hfo];simp only[qN,hlk,hb,hc,eX,hz,GE,if_false];rw[if_neg (by cases seen with|nil=>(simp)|cons a l=>simp at hm;simp[hm]),hi];simp only[hf,if_true];rfl
theorem bB(hc:call c9 args=some (r,[]))(hfo:un g (S.get C aI)= .fn (.func c9) as bs:=by exact rfl)(hb:rT S.h (as++(xs.toList.map fun x=>un g (S.get C x))++bs)=some (args,seen):=by exact blk)(hm:(seen.isEmpty||mine r)=true:=by first|exact rfl|exact Md)(hz:(C.eI f).contains d=true:=by exact rfl)(hv:dF r=v:=by exact CL)(hi:imp [d] v=(v',wr):=by exact x6)(hf:fresh S.h wr=true:=by exact rfl)(ht:yT C aI=false:=by exact rfl)(nA:pathOf C aI=none:=by exact rfl)(hlk:C.look c9=false:=by exact rfl)(dR:C.gT c9=false:=by exact rfl):bk C f call S g ⟨some d, .call ⟨.value aI,xs,ts⟩,ty,pos,aQ,bn⟩=some ⟨[(d,v')],seen,wr⟩:=by rw[FY (Gp hfo dR)];rw[nA];simp only;rw[ht];simp only[GE,if_false];rw[hfo];simp only[qN,hlk,GE,if_false,hb,hc,eX,hz,if_true,hv];rw[if_neg (by cases seen with|nil=>(simp)|cons a l=>simp at hm;simp[hm]),hi];simp only[hf,if_true];rfl
theorem PA{ms cp:List Nat}{outs:List U}{tk dj:List Id}{back:List (Id×Option Rows)}{kj:List (Id×Option Rows)}(hm:C.yp c9=ms)(hm0:ms.isEmpty=false)(hle:C.cp c9=cp)(ht:kg S.h ms (xs.toList.map fun x=>un g (S.get C x))=some (args,seen,tk,dj))(hc:call c9 args=some (r,outs))(hv:(if eX C f (some d)then dF r else r)=v)(hb:gY S.h (xs.toList.map fun x=>un g (S.get C x)) cp outs=some back)(h1:(dV (tk++dj)&&tr seen (tk++dj))=true)(h2:(seen.isEmpty||mine r&&outs.all mine)=true)(h3:(dV (back.map (·.1))&&(back.all fun x=>tk.contains x.1))=true)(hi:imp [d] v=(v',kj))(hf:fresh S.h kj=true)(hw:kj++(back++(tk++dj).map fun i=>(i,none))=wr)(nA:C.path c9=none)(dR:C.gT c9=false:=by exact rfl):bk C f call S g ⟨some d, .call ⟨.value (.func c9),xs,ts⟩,ty,pos,aQ,bn⟩=some ⟨[(d,v')],seen,wr⟩:=by rw[FY (Gp (as:=[]) (bs:=[]) rfl dR)];simp only[pathOf,nA];have e0:yT C (.func c9)=true:=by{simp[yT,hm,hm0]};subst hw hm hle hv;rw[e0,if_pos rfl];unfold rU;simp only[ht,hc,hb,hi];simp only[GT]at h1 h3;rw[if_pos (by simp only[GT];exact⟨⟨⟨⟨⟨h1.1,h1.2⟩,h2⟩,h3.1⟩,h3.2⟩,hf⟩)];rfl
end
end
open Go
def Ct{α:Type}(a b:List α):Option Unit:=if a.length=b.length then some ()else none
theorem abG{α:Type}{a b:List α}{u:Unit}(h:Ct a b=some u):a.length=b.length:=by unfold Ct at h;split at h;·{(first|(with_reducible assumption)|assumption)};·cases h
section
variable{L:Id->Option (Option Rows)}{id:Id}{cs old as bs args:List U}{n m:Nat}{α:Type}{c:α->List U}{q q0:List α}{w w2:List (Id×Option Rows)}{a b:U}{j:Nat}{l:List Nat}
theorem akL(ha:a= .mp id 0 0:=by exact rfl)(hb:b= .aP cs:=by exact rfl)(hh:L id=some (some [old]):=by exact rfl)(hl:cs.length=old.length:=by exact rfl):jF L a b=some [(id,some [cs])]:=by subst ha hb;simp[jF,hh,hl]
theorem akM(hlen:q.length=q0.length)(ha:a= .rs id 0 m:=by exact rfl)(hb:b= .own (q.map c) q.length:=by exact rfl)(hh:L id=some (some (q0.map c)):=by exact rfl)(hm:m=q0.length:=by exact ue)(hn:∀x,(c x).length=n:=by exact fun _=>rfl):jF L a b=some [(id,some (q.map c))]:=by subst ha hb hm;cases q0 with|nil=>(obtain rfl:q=[]:=List.length_eq_zero_iff.1 hlen;simp only[H3]at hh;simp[jF,hh])|cons x q0=>simp only[Hm]at hh;simp only[jF,hh];rw[if_pos ⟨by simpa using hlen,by simpa using hlen,by simp,by simp[hn]⟩]
theorem akN{r:Rows}(ha:a= .sl r:=by exact rfl):jF L a b=some []:=by subst ha;rfl
theorem akc(ha:as=[]:=by exact rfl)(hb:bs=[]:=by exact rfl):j9 L as bs=some []:=by subst ha hb;rfl
theorem akb(ha:cs=a::as)(hb:old=b::bs)(h1:jF L a b=some w)(h2:j9 L as bs=some w2):j9 L cs old=some (w++w2):=by subst ha hb;simp[j9,h1,h2]
theorem akK(hn:(match a with| .agg _=>false|_=>true)=true)(h:jF L a b=some w):sG L a b=some w:=by cases a<;>first|exact h|cases hn
theorem aku(hb:bs=[]:=by exact rfl):gY L args [] bs=some []:=by subst hb;rfl
theorem akt(hb:old=b::bs)(ha:args[j]? =some a)(h1:sG L a b=some w)(h2:gY L args l bs=some w2):gY L args (j::l) old=some (w++w2):=by subst hb;simp[gY,ha,h1,h2]
theorem rlk{y:Option (List (Id×Option Rows))}(h:gY L args l bs=y:=by repeat'(first|exact aku|exact akL|exact apI|exact akN|exact akM (by(first|(with_reducible assumption)|assumption))|exact akc|(apply akb;exact rfl;exact rfl)|(apply apH;exact rfl;exact rfl)|(apply akK;exact rfl)|(apply akt;exact rfl;exact rfl))):gY L args l bs=y:=h
end
section
variable{C:aF}{f:FuncId}{call:fZ}{S:ah}{g:Bool}
variable{d:Nat}{ty:TypeId}{pos:String}{aQ:Array Edge}{bn:Option (Nat×Bool)}{v v':U}
theorem vL{xs:Array Operand}{ts:Array TypeId}{c9:FuncId}{ms cp:List Nat}{args outs:List U}{seen tk dj:List Id}{r:U}{back kj wr:List (Id×Option Rows)}(hc:call c9 args=some (r,outs))(hm:C.yp c9=ms:=by exact rfl)(hm0:ms.isEmpty=false:=by exact rfl)(hle:C.cp c9=cp:=by exact rfl)(ht:kg S.h ms (xs.toList.map fun x=>un g (S.get C x))=some (args,seen,tk,dj):=by exact Vo)(hz:(C.eI f).contains d=false:=by exact rfl)(hb:gY S.h (xs.toList.map fun x=>un g (S.get C x)) cp outs=some back:=by exact rlk)(h1:(dV (tk++dj)&&tr seen (tk++dj))=true:=by exact rfl)(h2:(seen.isEmpty||mine r&&outs.all mine)=true:=by first|exact rfl|exact adB Md ag9)(h3:(dV (back.map (·.1))&&(back.all fun x=>tk.contains x.1))=true:=by exact rfl)(hi:imp [d] r=(v',kj):=by exact x6)(hf:fresh S.h kj=true:=by exact rfl)(hw:kj++(back++(tk++dj).map fun i=>(i,none))=wr:=by exact spine)(nA:C.path c9=none:=by exact rfl)(dR:C.gT c9=false:=by exact rfl):bk C f call S g ⟨some d, .call ⟨.value (.func c9),xs,ts⟩,ty,pos,aQ,bn⟩=some ⟨[(d,v')],seen,wr⟩:=PA hm hm0 hle ht hc (v:=r) (by simp only[eX,hz,GE,if_false]) hb h1 h2 h3 hi hf hw nA dR
theorem HC{xs:Array Operand}{ts:Array TypeId}{c9:FuncId}{ms cp:List Nat}{args outs:List U}{seen tk dj:List Id}{r:U}{back kj wr:List (Id×Option Rows)}(hc:call c9 args=some (r,outs))(hm:C.yp c9=ms:=by exact rfl)(hm0:ms.isEmpty=false:=by exact rfl)(hle:C.cp c9=cp:=by exact rfl)(ht:kg S.h ms (xs.toList.map fun x=>un g (S.get C x))=some (args,seen,tk,dj):=by exact Vo)(hz:(C.eI f).contains d=true:=by exact rfl)(hv:dF r=v:=by exact CL)(hb:gY S.h (xs.toList.map fun x=>un g (S.get C x)) cp outs=some back:=by exact rlk)(h1:(dV (tk++dj)&&tr seen (tk++dj))=true:=by exact rfl)(h2:(seen.isEmpty||mine r&&outs.all mine)=true:=by first|exact rfl|exact adB Md ag9)(h3:(dV (back.map (·.1))&&(back.all fun x=>tk.contains x.1))=true:=by exact rfl)(hi:imp [d] v=(v',kj):=by exact x6)(hf:fresh S.h kj=true:=by exact rfl)(hw:kj++(back++(tk++dj).map fun i=>(i,none))=wr:=by exact spine)(nA:C.path c9=none:=by exact rfl)(dR:C.gT c9=false:=by exact rfl):bk C f call S g ⟨some d, .call ⟨.value (.func c9),xs,ts⟩,ty,pos,aQ,bn⟩=some ⟨[(d,v')],seen,wr⟩:=PA hm hm0 hle ht hc (v:=v) (by simp only[eX,hz,if_true,hv]) hb h1 h2 h3 hi hf hw nA dR
end
theorem nj{C:aF}{f:FuncId}{a b:Nat}{args:List U}{r:Option (U×List U)}(h:den C a f args=r)(e:a=b):den C b f args=r:=e▸h
/-! ### Functions -/
def vS:List U->U|[r]=>r|vs=> .aU vs
def Fin(C:aF)(rv:List ResultVar)(cp:List Nat)(r:U)(outs:List U)(x:Exit×ah):Prop:=(x.1= .ret∨x.1= .normal)∧∃vs ids is,kW C x.2 rv=some (vs,ids)∧j8 x.2.h x.2.t cp=some (outs,is)∧dV (ids++is)=true∧vS vs=r
section
variable{C:aF}{f:FuncId}{call:fZ}{S:ah}{T:TypeId}
variable{rv:List ResultVar}{cp:List Nat}{vs outs cs r:List U}{ids is:List Id}{v v':U}
theorem akF:kW C S []=some ([],[]):=rfl
theorem akH{t:Nat}(h:pk S.h 9 (un true (S.t t))=some (v,ids))(hr:kW C S rv=some (vs,is)):kW C S (.tmp t::rv)=some (v::vs,ids++is):=by show(vX C S (.tmp t)).bind _=_;simp only[vX,h,AC,hr,Hb]
theorem akG{a m:Nat}{id:Id}{bb:Bool}[ha:cI C T bb m](hx:un true (S.t a)= .mp id 0 0)(hh:S.h id=some (some [r]))(hl:Ha m r.length=true)(hv:jh bb (r.take m)=some v)(h:pk S.h 9 v=some (v',ids))(hr:kW C S rv=some (vs,is)):kW C S (.cell a T::rv)=some (v'::vs,id::ids++is):=by show(vX C S (.cell a T)).bind _=_;have hl':0+m<=r.length:=by{have:=Hc hl;omega};simp only[vX,ha.kK,ha.sz,hx,hh,T1,if_pos hl',H0,hv,AC,h,hr,Hb]
theorem Hr{cells:List U}(hc:cells=[v]):jh false cells=some v:=by subst hc;rfl
theorem Hq{cells:List U}(hc:cells=cs:=by exact spine):jh true cells=some (.agg cs):=by subst hc;rfl
theorem Nl{y:Option (List U×List Id)}(h:kW C S rv=y:=by repeat'(first|with_reducible exact akF|((with_reducible apply akH);exact mW)|((with_reducible apply akG);exact rfl;exact rfl;exact rfl;(first|exact Hq|exact Hr rfl);exact mW)|((with_reducible apply apG);exact rfl;exact rfl;(first|exact Hq|exact Hr rfl);exact mW))):kW C S rv=y:=h
theorem fin{r:U}(h:kW C S rv=some (vs,ids):=by exact Nl)(hp:j8 S.h S.t cp=some (outs,is):=by exact HT)(hn:dV (ids++is)=true:=by exact rfl)(hr:vS vs=r:=by exact rfl):Fin C rv cp r outs (.ret,S):=⟨.inl rfl,vs,ids,is,h,hp,hn,hr⟩
theorem cv{fn:Func}{c:Code}{args:List U}{nn N:Nat}{r:U}{t:Nat->U}{h:Id->Option (Option Rows)}{sl:List Nat}(hf:C.P.funcs[f]? =some fn)(hn:fn.ntmps=N)(hr:fn.results.toList=rv)(k:W C f (den C nn) c ⟨N,t,h⟩ (Fin C rv cp r outs))(hb:fn.body=some c:=by exact rfl)(he:C.ext f=none:=by exact rfl)(hle:C.cp f=cp:=by exact rfl)(hl:Ha args.length N=true:=by exact rfl)(kD:List.range args.length=sl:=by exact rfl)(hm:aH N sl args=⟨N,t,h⟩:=by exact Hs)(dR:C.gT f=false:=by exact rfl):den C (nn+1) f args=some (r,outs):=by obtain⟨⟨e,s⟩,h1,h2,vs,ids,is,h3,h6,h4,h5⟩:=k;subst hr hn hle kD;show r0 C (den C nn) j4 f args=_;unfold r0;simp only[he,hf,hb,dR,GE,if_false,if_pos (Hc hl),hm,h1,AC];have cQ:finish C fn (C.cp f) args s=some (r,outs):=by{unfold finish;simp only at h3 h6;rw[h3,h6];simp only[h4,if_true];rw[<-h5];congr 2;cases vs with|nil=>(rfl)|cons a l=>cases l<;>rfl};rcases h2 with h2|h2;·{simp only at h2;subst h2;exact cQ};·simp only at h2;subst h2;exact cQ
end
/-! ### Loops -/
def cD.go{bI ρ ρ':Type}(kb:bI->Option ρ)(qo:ρ'->Option ρ):cD bI ρ'->Option ρ| .c6 x=>kb x| .ret r=>qo r
section
variable{C:aF}{f:FuncId}{call:fZ}{S:ah}{Q:Exit×ah->Prop}{c:Code}{σ bI ρ ρ':Type}{r:ρ}{k:Nat}{o:Option (Bool×List Nat)}{rep:σ->ah}[mB]
def uL(o:Option (Bool×List Nat))(rep:σ->ah)(Rel:bI->Exit×ah->Prop)(y:cE σ bI)(x:Exit×ah):Prop:=match y with| .next s'=>x.1= .normal∧dr o x.2=some (rep s')| .out v=>x.1≠ .normal∧Rel v x
def vi(C:aF)(f:FuncId)(c:Code):Option (Bool×List Nat):=match nr c with|some i=>some (C.shr f i,C.live f i)|none=>some (false,[])
theorem SZ{step:σ->Option (cE σ bI)}(Rel:bI->Exit×ah->Prop){fe:σ}{v:bI}(hL:Loop step fe=some v)(h0:dr (vi C f c) S=some (rep fe))
  (body:∀s y,step s=some y->W C f call c (rep s) (uL (vi C f c) rep Rel y)):∃x,cm C f call j4 (.loop c) S=some x∧Rel v x:=by
 obtain⟨m,hm⟩:=IM hL
 have key:∀(b:Bool)(slots:List Nat),vi C f c=some (b,slots)->(match nr c with|some i=>C.live f i|none=>[])=slots->(match nr c with|some i=>C.shr f i|none=>false)=b->∃x,cm C f call j4 (.loop c) S=some x∧Rel v x:=by
  intro b slots hk hs hb
  rw[hk]at h0 body
  cases b with
  |true=>
   have key:∀m s,LoopN step m s=some v->∃x,j4 ah (fun S'=>cm C f call j4 c S') (fun S'=>norm S' slots) (rep s)=some x∧Rel v x:=by
    intro m
    induction m with
    |zero=>intro s h;simp[LoopN]at h
    |succ m ih=>
     intro s h
     simp only[LoopN,Hd]at h
     obtain⟨y,h1,h2⟩:=h
     obtain⟨⟨e,S'⟩,h3,h4⟩:=body s y h1
     rw[S0]
     simp only[h3,AC]
     cases y with
     |next s'=>
      obtain⟨rfl,h5⟩:=h4
      have h5:norm S' slots=some (rep s'):=h5
      simp only[h5,AC]
      exact ih s' h2
     |out o'=>
      obtain⟨h5,h6⟩:=h4
      obtain rfl:o'=v:=by simpa using h2
      cases e with
      |normal=>exact absurd rfl h5
      |_=>exact⟨_,rfl,h6⟩
   obtain⟨x,h3,h4⟩:=key m fe hm
   refine⟨x, ?_,h4⟩
   subst hs
   simp only[cm]
   refine(if_pos hb).trans ?_
   exact(congrArg (UV · _) (show norm S _=some (rep fe)from h0)).trans h3
  |false=>
   have h0:(jG S slots).map (aH S.n slots)=some (rep fe):=h0
   obtain⟨alH,ady,adz⟩:=Option.map_eq_some_iff.1 h0
   have hn:∀s,(∃qB,aH S.n slots qB=rep s)->(rep s).n=S.n:=fun s⟨qB,h⟩=>by rw[<-h,AQ]
   have key:∀m s qB,aH S.n slots qB=rep s->LoopN step m s=some v->∃x,j4 (List U) (fun b9=>cm C f call j4 c (aH S.n slots b9)) (fun S'=>jG S' slots) qB=some x∧Rel v x:=by
    intro m
    induction m with
    |zero=>intro s qB _ h;simp[LoopN]at h
    |succ m ih=>
     intro s qB Sf h
     simp only[LoopN,Hd]at h
     obtain⟨y,h1,h2⟩:=h
     obtain⟨⟨e,S'⟩,h3,h4⟩:=body s y h1
     rw[S0]
     simp only[Sf,h3,AC]
     cases y with
     |next s'=>
      obtain⟨rfl,h5⟩:=h4
      have h5:(jG S' slots).map (aH S'.n slots)=some (rep s'):=h5
      obtain⟨alG,adE,Rx⟩:=Option.map_eq_some_iff.1 h5
      have tJ:S'.n=S.n:=by rw[FZ AO _ _ _ h3];exact hn s ⟨qB,Sf⟩
      rw[tJ]at Rx
      simp only[adE,AC]
      exact ih s' alG Rx h2
     |out o'=>
      obtain⟨h5,h6⟩:=h4
      obtain rfl:o'=v:=by simpa using h2
      cases e with
      |normal=>exact absurd rfl h5
      |_=>exact⟨_,rfl,h6⟩
   obtain⟨x,h3,h4⟩:=key m fe alH adz hm
   refine⟨x, ?_,h4⟩
   subst hs
   simp only[cm]
   refine(if_neg fun e=>Pi (hb.symm.trans e)).trans ?_
   exact(congrArg (UV · _) ady).trans h3
 unfold vi at key
 split at key
 ·exact key _ _ rfl rfl rfl
 ·exact key _ _ rfl rfl rfl
def Fa(C:aF)(f:FuncId)(k:Nat)(fL:bI->ah)(v:bI)(x:Exit×ah):Prop:=x.1= .exit k∧dr (C.pW f k) x.2=some (fL v)
def BV(C:aF)(f:FuncId)(k:Nat)(fL:bI->ah)(R:ρ'->Exit×ah->Prop):cD bI ρ'->Exit×ah->Prop| .c6 v,x=>Fa C f k fL v x| .ret r,x=>R r x
theorem bP{step:σ->Option (cE σ bI)}{fe:σ}{qG:bI->Option ρ}(rep:σ->ah)(fL:bI->ah)(hF:(Loop step fe).bind qG=some r)(h0:dr (vi C f c) S=some (rep fe))(body:∀s y,step s=some y->W C f call c (rep s) (uL (vi C f c) rep (Fa C f k fL) y))(post:∀v,qG v=some r->Q (.normal,fL v)):W C f call (.block k (.loop c)) S Q:=by obtain⟨v,h1,h2⟩:=FB hF;obtain⟨⟨e,S'⟩,h3,rfl,h5⟩:=SZ (Fa C f k fL) h1 h0 body;exact cq ⟨_,h3,Uv h5 (post v h2)⟩
theorem kS{step:σ->Option (cE σ (cD bI ρ'))}{fe:σ}{kb:bI->Option ρ}{qo:ρ'->Option ρ}(rep:σ->ah)(fL:bI->ah)(R:ρ'->Exit×ah->Prop)(hF:(Loop step fe).bind (cD.go kb qo)=some r)(h0:dr (vi C f c) S=some (rep fe))(body:∀s y,step s=some y->W C f call c (rep s) (uL (vi C f c) rep (BV C f k fL R) y))(post:∀v,kb v=some r->Q (.normal,fL v))(F5:∀v,qo v=some r->∀x,R v x->qK C f k Q x):W C f call (.block k (.loop c)) S Q:=by obtain⟨v,h1,h2⟩:=FB hF;obtain⟨x,h3,h4⟩:=SZ (BV C f k fL R) h1 h0 body;cases v with|c6 v=>(obtain⟨e,S'⟩:=x;obtain⟨rfl,h5⟩:=h4;exact cq ⟨_,h3,Uv h5 (post v h2)⟩)|ret v=>exact cq ⟨_,h3,F5 v h2 _ h4⟩
variable{Rel:bI->Exit×ah->Prop}{fL:bI->ah}{R:ρ'->Exit×ah->Prop}
theorem ln{s':σ}{y:cE σ bI}(hy:some (cE.next s')=some y)(hc:dr o S=some (rep s')):uL o rep Rel y (.normal,S):=by cases hy;exact⟨rfl,hc⟩
theorem lx{v:bI}{y:cE σ bI}(hy:some (cE.out v)=some y)(hc:dr (C.pW f k) S=some (fL v)):uL o rep (Fa C f k fL) y (.exit k,S):=by cases hy;exact⟨by simp,rfl,hc⟩
theorem mP{v:bI}{y:cE σ (cD bI ρ')}(hy:some (cE.out (cD.c6 v))=some y)(hc:dr (C.pW f k) S=some (fL v)):uL o rep (BV C f k fL R) y (.exit k,S):=by cases hy;exact⟨by simp,rfl,hc⟩
theorem lr{v:ρ'}{y:cE σ (cD bI ρ')}(hy:some (cE.out (cD.ret v))=some y)(h:R v (.ret,S)):uL o rep (BV C f k fL R) y (.ret,S):=by cases hy;exact⟨by simp,h⟩
theorem lrr{v:ρ'}{y:cE σ (cD bI ρ')}{x:Exit×ah}(hy:some (cE.out (cD.ret v))=some y)(hx:x.1≠ .normal)(h:R v x):uL o rep (BV C f k fL R) y x:=by cases hy;exact⟨hx,h⟩
end
theorem inj{α:Type}{a b:α}(h:some a=some b):a=b:=Lk h
open Go
/-! ### Operations -/
theorem Zi{α:Type}{x:α}{q1 eR:List α}(h:app q1 [x]=some eR):eR[((q1.length:Nat):Int).toNat]? =some x:=by obtain⟨_,rfl⟩:=Jb h;simp
def uZ(n:Nat)(k:Int):Option Nat:=if 0<=k∧k<=n then some k.toNat else none
theorem abd{n m:Nat}{k:Int}(h:uZ n k=some m):m<=n:=by unfold uZ at h;split at h;·{simp only[H1]at h;omega};·cases h
def stk{α:Type}(x:List α×Nat):Option Unit:=if x.2<=x.1.length then some ()else none
theorem rB{α:Type}{x:List α×Nat}{u:Unit}(h:stk x=some u):x.2<=x.1.length:=by unfold stk at h;split at h;·{assumption};·cases h
section
variable{C:aF}{f:FuncId}{call:fZ}{S:ah}{g:Bool}
variable{d:Nat}{ty:TypeId}{pos:String}{aQ:Array Edge}{bn:Option (Nat×Bool)}{v v':U}
variable{x y z:Operand}{k:IntKind}{a b:Int}{T aC:TypeId}
theorem Tv{m row off:Nat}{id:Id}{rows aY:Rows}{r r' cs cs0:List U}{w:Id×Option Rows}{wr:List (Id×Option Rows)}(hr:rows[row]? =some r)(hs:rows.set row r'=aY)[ha:cI C T false m](hx:un g (S.get C x)= .mp id row off:=by first|exact rfl|exact bG)(hh:S.h id=some (some rows):=by exact rfl)(hm:m=1:=by exact rfl)(hl:Ha (off+1) r.length=true:=by exact rfl)(hv:(r.drop off).take 1=cs0:=by exact spine)(hu:bJ [d] 0 cs0=(cs,w::wr):=by exact y5)(Ah:cs=[v]:=by exact rfl)(hq:r.take off++cs++r.drop (off+1)=r':=by exact spine)(hf:fresh S.h (w::wr)=true:=by exact rfl):bk C f call S g ⟨some d, .load T x,ty,pos,aQ,bn⟩=some ⟨[(d,v)],[id],(id,some aY)::w::wr⟩:=by subst hm hq hs;exact SO (rows:=rows) (r:=r) ha.kK ha.sz hx hh hr hl (by rw[hv];exact hu) hf (by rw[Ah];rfl)
theorem Tt{e:TypeId}{m n:Nat}{bb:Bool}{rows:Rows}{r:List U}{i:Int}{id:Id}(hb:0<=i∧i<n)(hr:rows[i.toNat]? =some r)[hu:cY C T (.slice e)][hs:cI C e bb m](hx:un g (S.get C x)= .rs id 0 n:=by first|exact rfl|exact bG)(hh:S.h id=some (some rows):=by exact rfl)(hy:un g (S.get C y)= .val (.int k i):=by first|exact rfl|exact bG)(hl:r.length=m:=by exact rfl):bk C f call S g ⟨some d, .indexAddr T x y,ty,pos,aQ,bn⟩=some ⟨[(d, .mp id i.toNat 0)],[id],[]⟩:=by show nq C S _ T (un g (S.get C x)) (en (un g (S.get C y)))=_;simp only[hx,hy,en,nq,hu.ul,hs.sz];rw[if_pos hb,hh];simp[hr,hl]
theorem Sn{α:Type}{l:List α}{i:Int}{x:α}{n:Nat}(h:idx (l.take n) i=some x):0<=i∧i<n:=by have:=AB h;rw[QQ]at this;omega
theorem AD{α:Type}{l:List α}{i:Int}{x:α}{n:Nat}(h:idx (l.take n) i=some x):l[i.toNat]? =some x:=by have:=gE h;rw[List.getElem?_take]at this;split at this;·{exact this};·cases this
theorem ahU{e:TypeId}{m n n':Nat}{bb:Bool}{id:Id}{rows:Rows}{hi:Operand}{K:Int}(hc:uZ n K=some n')[hu:cY C T (.slice e)][hs:cI C e bb m](hm:Do 0 m=true:=by exact rfl)(hx:un g (S.get C x)= .rs id 0 n:=by first|exact rfl|exact bG)(hh:S.h id=some (some rows):=by exact rfl)(hy:un g (S.get C hi)= .val (.int k K):=by first|exact rfl|exact bG)(hall:(rows.all (·.length==m))=true:=by first|exact B2 (fun _=>rfl)|exact amB (fun _=>rfl) rfl)(hn:n<=rows.length:=by(simp only[List.length_map,List.length_set];exact yl)):bk C f call S g ⟨some d, .slice T x none (some hi) none,ty,pos,aQ,bn⟩=some ⟨[(d, .rs id 0 n')],[id],[]⟩:=by show oO C S _ T (un g (S.get C x)) none (some (en (un g (S.get C hi))))=_;have hm':0<m:=of_decide_eq_true (lO hm);unfold uZ at hc;split at hc;·{rename_i hk;simp only[H1]at hc;subst hc;have hb:bounds none (some (some K)) n=some (0,K.toNat):=by{unfold bounds;show(if 0<=0∧0<=K∧K<=n then some ((0:Int).toNat,K.toNat)else none)=_;rw[if_pos ⟨by omega,hk.1,hk.2⟩];rfl};simp only[hx,hy,en,oO,hu.ul,hs.sz,hh,hb,Option.bind_some];rw[if_pos ⟨by omega,hm',hall⟩];simp[put]};·cases hc
theorem ahR{α:Type}{c:α->List U}{q r:List α}{x':α}{id fU:Id}{e:TypeId}{m n:Nat}{row:List U}(hr:app (q.take n) [x']=some r)(hn:n<=q.length)[hu:cY C T (.slice e)][hu1:cY C aC (.slice e)][hok:rJ C e m](hx:un g (S.get C x)= .rs id 0 n:=by exact rfl)(hh:S.h id=some (some (q.map c)):=by exact rfl)(hy:un g (S.get C y)= .rs fU 0 1:=by exact rfl)(l9:S.h fU=some (some [row]):=by exact rfl)(hl:∀x,(c x).length=m:=by exact fun _=>rfl)(hrl:row.length=m:=by exact rfl)(hcell:sH [row]=true:=by exact rfl)(hd:S.h [d]=none:=by exact rfl)(hfz:(C.eI f).contains d=false:=by exact rfl):bk C f call S g ⟨some d, .call ⟨.builtin .append,⟨[x,y]⟩,⟨[T,aC]⟩⟩,ty,pos,aQ,bn⟩=some ⟨[(d, .rs [d] 0 r.length)],[id,fU],[(id,none),([d],some ((r.map c).set (((q.take n).length:Nat):Int).toNat row))]⟩:=by obtain⟨h1,rfl⟩:=Jb hr;have hrows:rowsOf S.h (.rs id 0 n)=some ((q.take n).map c,[id]):=by{simp only[rowsOf,hh,H4,Nat.zero_add,if_pos hn,H0,Kd]};have Di:rowsOf S.h (.rs fU 0 1)=some ([row],[fU]):=by{simp[rowsOf,l9]};have e1:(((q.take n++[x']).map c).set (((q.take n).length:Nat):Int).toNat row)=(q.take n).map c++[row]:=by{rw[Int.toNat_natCast,T2,List.set_append_right _ _ (by simp)];simp};rw[e1];refine Pa hok.ao hu.ul hu1.ul hx hrows (by rw[hy];exact Di) (by simp[hrl]) hcell (by simpa[qp]using h1) hd hfz ?_;simp only[B5,nY,hh];rw[if_pos (by simp only[GT];exact⟨⟨B2 hl,by simp⟩,by simp⟩)];simp[put]
end
/-! ### At a function's end -/
section
variable{C:aF}{S:ah}{rv:List ResultVar}{cp:List Nat}{vs outs:List U}{ids is:List Id}{r:U}
theorem aX(h:kW C S rv=some ([r],ids):=by exact Nl)(hp:j8 S.h S.t cp=some (outs,is):=by exact HT)(hn:dV (ids++is)=true:=by exact rfl):Fin C rv cp r outs (.ret,S):=⟨.inl rfl,[r],ids,is,h,hp,hn,rfl⟩
theorem bl{a b:U}(h:kW C S rv=some (a::b::vs,ids):=by exact Nl)(hp:j8 S.h S.t cp=some (outs,is):=by exact HT)(hn:dV (ids++is)=true:=by exact rfl):Fin C rv cp (.aU (a::b::vs)) outs (.ret,S):=⟨.inl rfl,_,ids,is,h,hp,hn,rfl⟩
end
end Go.Ab
