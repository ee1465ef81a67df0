import Derived.Test.YtkmdadjmdgonbaaGreatDoorAbFn
import Derived.Test.YtkmdadjmdgonbaaGreatDoorAbSimp
open Bool renaming and_eq_true->A0,false_eq_true->Do,noConfusion->Kd,and_self->Nm
open Classical renaming choose_spec->IH
open List renaming all_eq_true->Hc,map_cons->Hd,map_nil->Hk,foldl->Hm,replicate->Hn,length_drop->H1,take_of_length_le->H2,drop_zero->H3,nil_append->If,all_cons->Ix,length_cons->PH,getElem?_cons_zero->PQ
open Nat renaming blt->A1,ble->GT,le_of_ble_eq_true->Hb,ble_eq_true_of_le->PP
open Option renaming bind_some->AC,map_some->GE,bind_eq_some_iff->Ha,map_eq_some_iff->Lk,bind->Pi
open Option.some renaming inj->H4,injEq->H5
set_option linter.all false
namespace Go.Ab
open Go
abbrev gG:=FuncId->List U->Option (U×List U)
abbrev aG(n:Int):Int:=IntKind.i64.wrap n
def idx{α:Type}(l:List α)(i:Int):Option α:=if 0<=i then l[i.toNat]? else none
theorem abR{α β:Type}{c:α->β}{l:List α}{i:Int}{x:α}(h:idx l i=some x):idx (l.map c) i=some (c x):=by unfold idx at*;split at h;·{rw[if_pos ‹_›];simp[h]};·cases h
theorem qD{α:Type}{l:List α}{i:Int}{x:α}(h:idx l i=some x):l[i.toNat]? =some x:=by unfold idx at h;split at h;·{exact h};·cases h
theorem PX{α:Type}{l:List α}{i:Int}{x:α}(h:idx l i=some x):0<=i∧i<(l.length:Nat):=by unfold idx at h;split at h;·{rename_i hp;refine⟨hp, ?_⟩;rcases Nat.lt_or_ge i.toNat l.length with h'|h';·{omega};·rw[List.getElem?_eq_none h']at h;cases h};·cases h
theorem Fj{α β:Type}{o:Option α}{k:α->Option β}{r:β}(h:o.bind k=some r):∃x,o=some x∧k x=some r:=Option.bind_eq_some_iff.1 h
theorem bb{α β:Type}{o:Option α}{k:α->Option β}{r:β}{G:Prop}(h:o.bind k=some r)(g:∀x,o=some x->k x=some r->G):G:=by obtain⟨x,h1,h2⟩:=Fj h;exact g x h1 h2
def W(C:aC)(f:FuncId)(call:gG)(c:Code)(S:ah)(Q:Exit×ah->Prop):Prop:=∃x,cX C f call mu c S=some x∧Q x
theorem ar{P:Prop}(h:P:=by exact rfl):P:=h
def gH(C:aC)(f:FuncId)(call:gG)(ops:Array Oper)(m:Option (List Nat))(i:Nat)(l:List Oper)(ks:List eW)(S:ah)(K:List eW->ah->Prop)(Z:List eW->ue->Prop):Prop:=∃x,jg C f call ops m i l S=some x∧match x.1 with| .inl S'=>K (ks++x.2) S'| .inr p=>Z (ks++x.2) p
def adq(_:List eW)(_:ue):Prop:=False
abbrev oT(C:aC)(f:FuncId)(call:gG)(ops:Array Oper)(l:List Oper)(S:ah)(K:List eW->ah->Prop):Prop:=gH C f call ops none 0 l [] S K adq
theorem EX{C:aC}{f:FuncId}{call:gG}{ops:Array Oper}{l:List Oper}{S:ah}{K:List eW->ah->Prop}(h:oT C f call ops l S K):∃x,kD C f call ops 0 l S=some x∧K ([]++x.2) x.1:=by obtain⟨⟨z,ks⟩,h1,h2⟩:=h;cases z with|inl S'=>(exact⟨(S',ks),I0 h1,h2⟩)|inr p=>exact h2.elim
/-! ### Loops -/
inductive bZ(σ bU:Type)where|next(s:σ)|out(x:bU)
inductive cB(bU ρ:Type)where|cQ(x:bU)|ret(r:ρ)
def LoopN{σ bU:Type}(step:σ->Option (bZ σ bU)):Nat->σ->Option bU|0,_=>none|m+1,s=>(step s).bind fun y=>match y with| .next s'=>LoopN step m s'| .out x=>some x
open Classical in noncomputable def Bv{σ bU:Type}(step:σ->Option (bZ σ bU))(s:σ):Option bU:=if h:∃x m,LoopN step m s=some x then some (Classical.choose h)else none
theorem HL{σ bU:Type}{step:σ->Option (bZ σ bU)}:∀{m:Nat}{s:σ}{x:bU}(k:Nat),LoopN step m s=some x->LoopN step (m+k) s=some x|0,_,_,_,h=>by{simp[LoopN]at h}|m+1,s,x,k,h=>by rw[Nat.add_right_comm];simp only[LoopN,Ha]at h|-;obtain⟨y,h1,h2⟩:=h;refine⟨y,h1, ?_⟩;cases y with|next s'=>(exact HL k h2)|out x=>exact h2
theorem TE{σ bU:Type}{step:σ->Option (bZ σ bU)}{m m':Nat}{s:σ}{x y:bU}(h1:LoopN step m s=some x)(h2:LoopN step m' s=some y):x=y:=by have e1:=HL m' h1;have e2:=HL m h2;rw[Nat.add_comm]at e2;rw[e1]at e2;exact H4 e2
theorem TD{σ bU:Type}{step:σ->Option (bZ σ bU)}{s:σ}{x:bU}(h:Bv step s=some x):∃m,LoopN step m s=some x:=by unfold Bv at h;split at h;·{rename_i hx;simp only[H5]at h;subst h;exact IH hx};·cases h
class mP where
 b7:∀{σ bU:Type},(σ->Option (bZ σ bU))->σ->Option bU
 ok:∀{σ bU:Type}{step:σ->Option (bZ σ bU)}{s:σ}{x:bU},b7 step s=some x->∃m,LoopN step m s=some x
noncomputable instance acN:mP:=⟨Bv,TD⟩
def Loop [mP]{σ bU:Type}(step:σ->Option (bZ σ bU))(s:σ):Option bU:=mP.b7 step s
theorem HM [mP]{σ bU:Type}{step:σ->Option (bZ σ bU)}{s:σ}{x:bU}(h:Loop step s=some x):∃m,LoopN step m s=some x:=mP.ok h
theorem HN{σ bU:Type}{step:σ->Option (bZ σ bU)}{m:Nat}{s:σ}{x:bU}(h:LoopN step m s=some x):Loop step s=some x:=by show Bv step s=some x;unfold Bv;have hx:∃x m,LoopN step m s=some x:=⟨x,m,h⟩;rw[dif_pos hx];obtain⟨m',h'⟩:=IH hx;rw[TE h' h]
theorem fe{σ bU:Type}(step:σ->Option (bZ σ bU))(s:σ):Loop step s=(step s).bind fun y=>match y with| .next s'=>Loop step s'| .out x=>some x:=by apply Option.ext;intro x;constructor;·{intro h;obtain⟨m,h⟩:=HM h;cases m with|zero=>(simp[LoopN]at h)|succ m=>simp only[LoopN,Ha]at h|-;obtain⟨y,h1,h2⟩:=h;refine⟨y,h1, ?_⟩;cases y with|next s'=>(exact HN h2)|out x=>exact h2};·intro h;simp only[Ha]at h;obtain⟨y,h1,h2⟩:=h;cases y with|next s'=>(obtain⟨m,h3⟩:=HM h2;exact HN (m:=m+1) (by simp only[LoopN,h1,AC,h3]))|out x=>exact HN (m:=1) (by simp only[LoopN,h1,AC];exact h2)
section
variable{C:aC}{f:FuncId}{call:gG}{S:ah}{n:Nat}{t:Nat->U}{h:Id->Option (Option Rows)}
variable{Q:Exit×ah->Prop}{a b c:Code}{ρ:Type}{r:ρ}{l:List Oper}{id k:Nat}
/-! ### Code -/
def EW(C:aC)(f:FuncId)(call:gG)(b:Code)(Q:Exit×ah->Prop)(x:Exit×ah):Prop:=match x.1 with| .normal=>∃S',fh (nU C f b) x.2=some S'∧W C f call b S' Q|_=>Q x
theorem sq(h:W C f call a S (EW C f call b Q)):W C f call (.seq a b) S Q:=by obtain⟨⟨e,s⟩,h1,h2⟩:=h;cases e with|normal=>(obtain⟨S',h5,y,h3,h4⟩:=h2;exact⟨y,by simp only[cX,h1,AC,h5,h3],h4⟩)|_=>exact⟨_,by simp only[cX,h1,AC],h2⟩
theorem az(h:W C f call b S Q)(hk:nU C f b=none:=by exact rfl):EW C f call b Q (.normal,S):=⟨S,by rw[hk];rfl,h⟩
theorem aA(h:Q (.ret,S)):EW C f call b Q (.ret,S):=h
theorem ek(h:Q (.exit k,S)):EW C f call b Q (.exit k,S):=h
theorem cd{x:Operand}{p:Bool}{A B:Option ρ}(hF:(if p=true then A else B)=some r)(h1:A=some r->W C f call a S Q)(h2:B=some r->W C f call b S Q)(hc:un true (S.get C x)= .val (.bool p):=by exact rfl):W C f call (.cond x a b) S Q:=by cases p with|true=>(obtain⟨y,h3,h4⟩:=h1 (by simpa using hF);exact⟨y,by simp only[cX,hc];simpa using h3,h4⟩)|false=>obtain⟨y,h3,h4⟩:=h2 (by simpa using hF);exact⟨y,by simp only[cX,hc];simpa using h3,h4⟩
theorem sk(h:Q (.normal,S)):W C f call .skip S Q:=⟨_,rfl,h⟩
theorem rt(h:Q (.ret,S)):W C f call .ret S Q:=⟨_,rfl,h⟩
theorem ex(h:Q (.exit k,S)):W C f call (.exit k) S Q:=⟨_,rfl,h⟩
def qa(C:aC)(f:FuncId)(k:Nat)(Q:Exit×ah->Prop)(x:Exit×ah):Prop:=match x.1 with| .normal=>∃S',fh (C.o5 f k) x.2=some S'∧Q (.normal,S')| .exit j=>if j=k then∃S',fh (C.o5 f k) x.2=some S'∧Q (.normal,S')else Q (.exit j,x.2)|_=>Q x
theorem aJ(h:W C f call c S (qa C f k Q)):W C f call (.block k c) S Q:=by obtain⟨⟨e,s⟩,h1,h2⟩:=h;cases e with|normal=>(obtain⟨S',h3,h4⟩:=h2;exact⟨_,by simp only[cX,h1,AC,h3,GE],h4⟩)|exit j=>(simp only[qa]at h2;split at h2;·{rename_i hj;obtain⟨S',h3,h4⟩:=h2;exact⟨_,by simp only[cX,h1,AC,hj,if_true,h3,GE],h4⟩};·rename_i hj;exact⟨_,by simp only[cX,h1,AC,hj,if_false],h2⟩)|_=>exact⟨_,by simp only[cX,h1,AC],h2⟩
theorem bE(h:Q (.normal,S))(hk:C.o5 f k=none:=by exact rfl):qa C f k Q (.normal,S):=⟨S,by rw[hk];rfl,h⟩
theorem bf(h:Q (.ret,S)):qa C f k Q (.ret,S):=h
theorem At(h:Q (.normal,S))(hk:C.o5 f k=none:=by exact rfl):qa C f k Q (.exit k,S):=by simp only[qa,if_true];exact⟨S,by rw[hk];rfl,h⟩
theorem afp{j:Nat}(h:Q (.exit j,S))(hj:Nat.beq j k=false:=by exact rfl):qa C f k Q (.exit j,S):=by have:j≠k:=fun e=>by{subst e;simp at hj};simpa[qa,this]using h
/-! ### Places where the state is told anew -/
theorem RM{S':ah}(hc:fh (C.o5 f k) S=some S')(h:Q (.normal,S')):qa C f k Q (.exit k,S):=by simp only[qa,if_true];exact⟨S',hc,h⟩
def EV(σ:Type)(o:Option (Bool×List Nat))(rep:σ->ah)(oO:σ->Option ρ)(r:ρ)(Q:Exit×ah->Prop)(x:Exit×ah):Prop:=match x.1 with| .normal=>∃s,fh o x.2=some (rep s)∧oO s=some r|_=>Q x
theorem eH{σ:Type}(rep:σ->ah)(oO:σ->Option ρ)(ha:W C f call a S (EV σ (nU C f b) rep oO r Q))(hk:∀s,oO s=some r->W C f call b (rep s) Q):W C f call (.seq a b) S Q:=by refine sq ?_;obtain⟨⟨e,s⟩,h1,h2⟩:=ha;refine⟨_,h1, ?_⟩;cases e with|normal=>(obtain⟨s,h3,h4⟩:=h2;exact⟨_,h3,hk s h4⟩)|_=>exact h2
theorem bK{σ:Type}{o:Option (Bool×List Nat)}{rep:σ->ah}{oO:σ->Option ρ}(s:σ)(hF:oO s=some r)(hc:fh o S=some (rep s)):EV σ o rep oO r Q (.normal,S):=⟨s,hc,hF⟩
theorem gN{σ:Type}{o:Option (Bool×List Nat)}{rep:σ->ah}{oO:σ->Option ρ}(h:Q (.ret,S)):EV σ o rep oO r Q (.ret,S):=h
theorem afq{σ:Type}{o:Option (Bool×List Nat)}{rep:σ->ah}{oO:σ->Option ρ}(h:Q (.exit k,S)):EV σ o rep oO r Q (.exit k,S):=h
section
variable{σ:Type}{rep:σ->ah}{oO:σ->Option ρ}
end
/-! ### Regions -/
section
variable{K:List eW->ah->Prop}{Z:List eW->ue->Prop}{m:Option (List Nat)}{ops:Array Oper}{i:Nat}{ks:List eW}
def yY(C:aC)(f:FuncId)(call:gG)(id:Nat)(ops:Array Oper)(draw:Bool)(S:ah)(Q:Exit×ah->Prop):Prop:=∃S',(n6 C f call id ops draw S).bind (mS C f id)=some S'∧Q (.normal,S')
def ET(C:aC)(f:FuncId)(id:Nat)(P:ah->Prop)(ks:List eW)(S:ah):Prop:=k9 (C.fI f id) ks=true∧P S
def HF(l:List Nat)(K:ah->Prop)(S:ah):Prop:=∃S',kE l S=some S'∧K S'
def qX(p:Nat)(lo xS:List Nat)(K:ah->Prop)(S:ah):Prop:=∃S',mC p lo S=some S'∧HF xS K S'
theorem w0{ops:Array Oper}{B0:Bool}(h:yY C f call id ops B0 S Q)(ha:C.o8 f id=[]:=by exact rfl)(hn:C.qK f id=false:=by exact rfl):W C f call (.region id ops B0) S Q:=by obtain⟨S',h1,h2⟩:=h;exact⟨_,by simp[cX,hn,ha,kE,h1],h2⟩
theorem di{ops:Array Oper}{B0:Bool}(h:yY C f call id ops B0 S fun x=>W C f call b x.2 Q)(ha:C.o8 f id=[])(hk2:nU C f b=none)(hn:C.qK f id=false):W C f call (.seq (.region id ops B0) b) S Q:=sq (w0 (hn:=hn) (by obtain⟨S',h1,h2⟩:=h;exact⟨S',h1,az h2 hk2⟩) ha)
theorem N2(h:oT C f call ⟨l⟩ l S fun _ S'=>Q (.normal,S'))(hk:C.kB f id=none:=by exact rfl)(hz:C.mc f id=[]:=by exact rfl)(ho:C.kR f id=[]:=by exact rfl):yY C f call id ⟨l⟩ false S Q:=by obtain⟨x,h1,h2⟩:=EX h;exact⟨_,by simp[n6,h1,hk,fh,mS,hz,ho,kE,mC],h2⟩
theorem N3(h:oT C f call ⟨l⟩ l S (ET C f id fun S'=>Q (.normal,S')))(hk:C.kB f id=none:=by exact rfl)(hz:C.mc f id=[]:=by exact rfl)(ho:C.kR f id=[]:=by exact rfl):yY C f call id ⟨l⟩ true S Q:=by obtain⟨x,h1,h2,h3⟩:=EX h;simp only[If]at h2;exact⟨_,by simp[n6,h1,h2,hk,fh,mS,hz,ho,kE,mC],h3⟩
theorem N5(h:oT C f call ⟨l⟩ l S fun _ S'=>qX (1000+id) (C.kR f id) (C.mc f id) (fun cl=>Q (.normal,cl)) S')(hk:C.kB f id=none:=by exact rfl):yY C f call id ⟨l⟩ false S Q:=by obtain⟨x,h1,bG,h0,cl,h2,h3⟩:=EX h;exact⟨_,by simp[n6,h1,hk,fh,mS,h0,h2],h3⟩
theorem rg(h:oT C f call ⟨l⟩ l S fun _ S'=>Q (.normal,S'))(hk:C.kB f id=none:=by exact rfl)(hz:C.mc f id=[]:=by exact rfl)(ho:C.kR f id=[]:=by exact rfl)(ha:C.o8 f id=[]:=by exact rfl)(hn:C.qK f id=false:=by exact rfl):W C f call (.region id ⟨l⟩ false) S Q:=w0 (N2 h hk hz ho) ha hn
theorem tR(h:oT C f call ⟨l⟩ l S (ET C f id fun S'=>Q (.normal,S')))(hk:C.kB f id=none:=by exact rfl)(hz:C.mc f id=[]:=by exact rfl)(ho:C.kR f id=[]:=by exact rfl)(ha:C.o8 f id=[]:=by exact rfl)(hn:C.qK f id=false:=by exact rfl):W C f call (.region id ⟨l⟩ true) S Q:=w0 (N3 h hk hz ho) ha hn
theorem ag(h:oT C f call ⟨l⟩ l S fun _ S'=>W C f call b S' Q)(hk:C.kB f id=none:=by exact rfl)(hz:C.mc f id=[]:=by exact rfl)(ho:C.kR f id=[]:=by exact rfl)(ha:C.o8 f id=[]:=by exact rfl)(hk2:nU C f b=none:=by exact rfl)(hn:C.qK f id=false:=by exact rfl):W C f call (.seq (.region id ⟨l⟩ false) b) S Q:=di (N2 h hk hz ho) ha hk2 hn
theorem iN(h:oT C f call ⟨l⟩ l S (ET C f id fun S'=>W C f call b S' Q))(hk:C.kB f id=none:=by exact rfl)(hz:C.mc f id=[]:=by exact rfl)(ho:C.kR f id=[]:=by exact rfl)(ha:C.o8 f id=[]:=by exact rfl)(hk2:nU C f b=none:=by exact rfl)(hn:C.qK f id=false:=by exact rfl):W C f call (.seq (.region id ⟨l⟩ true) b) S Q:=di (N3 h hk hz ho) ha hk2 hn
theorem e3(h:oT C f call ⟨l⟩ l S fun _ S'=>qX (1000+id) (C.kR f id) (C.mc f id) (fun cl=>Q (.normal,cl)) S')(hk:C.kB f id=none:=by exact rfl)(ha:C.o8 f id=[]:=by exact rfl)(hn:C.qK f id=false:=by exact rfl):W C f call (.region id ⟨l⟩ false) S Q:=w0 (N5 h hk) ha hn
theorem cV(h:oT C f call ⟨l⟩ l S fun _ S'=>qX (1000+id) (C.kR f id) (C.mc f id) (fun cl=>W C f call b cl Q) S')(hk:C.kB f id=none:=by exact rfl)(ha:C.o8 f id=[]:=by exact rfl)(hk2:nU C f b=none:=by exact rfl)(hn:C.qK f id=false:=by exact rfl):W C f call (.seq (.region id ⟨l⟩ false) b) S Q:=di (N5 h hk) ha hk2 hn
theorem br{p:Nat}{K:ah->Prop}{lo xS:List Nat}(k:HF xS K S)(hl:lo=[]:=by exact rfl):qX p lo xS K S:=by subst hl;exact⟨_,rfl,k⟩
theorem bt{p:Nat}{K:ah->Prop}{S':ah}{lo xS:List Nat}(s:Nat)(sl:List Nat)(he:tC p S s=some S')(k:qX p sl xS K S')(hl:lo=s::sl:=by exact rfl):qX p lo xS K S:=by subst hl;obtain⟨cl,h1,h2⟩:=k;exact⟨cl,by simp only[mC,he,AC];exact h1,h2⟩
theorem aeA{p s row off:Nat}{id:Id}{r r':List U}{x:Id×Option Rows}{wr:List (Id×Option Rows)}(hs:t s= .mp id row off)(hid:h id=some (some [r]))(hu:bR [p,s] 0 r=(r',x::wr))(Km:A1 s n=true)(hf:fresh h (x::wr)=true):tC p ⟨n,t,h⟩ s=some ⟨n,t,bu h ((id,some [r'])::x::wr)⟩:=by have hs':s<n:=of_decide_eq_true (by simp[A1]at Km|-;omega);simp only[tC,hs,hid,hu,List.isEmpty_cons,Do,if_false];rw[if_pos ⟨hs',hf⟩]
theorem bp{K:ah->Prop}{l:List Nat}(k:K S)(hl:l=[]:=by exact rfl):HF l K S:=by subst hl;exact⟨_,rfl,k⟩
theorem nl(h:K ks S):gH C f call ops m i [] ks S K Z:=⟨_,rfl,by simpa using h⟩
def oB(ks:List eW):Bool:=ks.all fun k=>k.2.2.isEmpty
theorem qA(fI:List (Nat×Nat)):∀ks:List eW,oB ks=true->k9 fI ks=true|[],_=>rfl|x::l,hk=>by simp only[oB,Ix,A0]at hk;have h1:=qA fI l hk.2;simp only[k9,h1,Bool.and_true,Hc,Bool.or_eq_true];intro y hy;right;have h2:=List.all_eq_true.1 hk.2 y hy;simp only[List.isEmpty_iff]at hk h2;simp[o6,hk.1,h2]
theorem aga{a b:List eW}(h:oB a=true)(k:oB b=true):oB (a++b)=true:=by simp only[oB,List.all_append,A0]at*;exact⟨h,k⟩
theorem Sd{fI:List (Nat×Nat)}{ks:List eW}(h:oB ks=true:=by repeat'(first|apply aga|assumption|exact rfl)):k9 fI ks=true:=qA fI ks h
theorem Av(a b:List eW):oB (a++b)=(oB a&&oB b):=by simp[oB]
theorem fU{P:ah->Prop}(h:P S)(hf:k9 (C.fI f id) ks=true:=by first|exact rfl|exact qA _ _ rfl|(apply qA;simp[Av, *];done)|(apply qA;simp only[Av,Bool.and_eq_true];(repeat' constructor)<;>first|assumption|rfl)):gH C f call ops m i [] ks S (ET C f id P) Z:=⟨_,rfl,by simpa using hf,h⟩
def yP(σ:Type)(C:aC)(f:FuncId)(id:Nat)(draw:Bool)(rep:σ->ah)(x:σ)(ks:List eW)(S:ah):Prop:=(draw=true->k9 (C.fI f id) ks=true)∧qX (1000+id) (C.kR f id) (C.mc f id) (fun cl=>fh (C.kB f id) cl=some (rep x)) S
theorem Ye{σ:Type}{draw:Bool}{A:Option σ}{tZ:σ->Option ρ}(rep:σ->ah)(hF:A.bind tZ=some r)(k1:∀x,A=some x->oT C f call ⟨l⟩ l S (yP σ C f id draw rep x))(k2:∀x,tZ x=some r->Q (.normal,rep x)):yY C f call id ⟨l⟩ draw S Q:=by obtain⟨x,h1,h2⟩:=Fj hF;obtain⟨y,h3,h4,bG,h5,cl,h6,h7⟩:=EX (k1 x h1);simp only[If]at h4;refine⟨rep x, ?_,k2 x h2⟩;simp only[n6,h3,AC];cases draw with|false=>(simp[mS,h5,h6,h7])|true=>simp[h4 rfl,mS,h5,h6,h7]
theorem dX{σ:Type}{draw:Bool}{A:Option σ}{tZ:σ->Option ρ}(rep:σ->ah)(hF:A.bind tZ=some r)(k1:∀x,A=some x->oT C f call ⟨l⟩ l S (yP σ C f id draw rep x))(k2:∀x,tZ x=some r->W C f call b (rep x) Q)(ha:C.o8 f id=[]:=by exact rfl)(hk2:nU C f b=none:=by exact rfl)(hn:C.qK f id=false:=by exact rfl):W C f call (.seq (.region id ⟨l⟩ draw) b) S Q:=di (Ye rep hF k1 k2) ha hk2 hn
theorem adh{σ:Type}{rep:σ->ah}{x:σ}(h:qX (1000+id) (C.kR f id) (C.mc f id) (fun cl=>fh (C.kB f id) cl=some (rep x)) S):gH C f call ops m i [] ks S (yP σ C f id false rep x) Z:=⟨_,rfl,And.intro (fun e=>Kd e) h⟩
theorem adi{σ:Type}{rep:σ->ah}{x:σ}(h:qX (1000+id) (C.kR f id) (C.mc f id) (fun cl=>fh (C.kB f id) cl=some (rep x)) S)(hf:k9 (C.fI f id) ks=true:=by first|exact rfl|exact qA _ _ rfl|(apply qA;simp[Av, *];done)|(apply qA;simp only[Av,Bool.and_eq_true];(repeat' constructor)<;>first|assumption|rfl)):gH C f call ops m i [] ks S (yP σ C f id true rep x) Z:=⟨_,rfl,And.intro (fun _=>by simpa using hf) h⟩
theorem bg{σ:Type}{rep:σ->ah}{x:σ}(hc:fh (C.kB f id) S=some (rep x))(hz:C.mc f id=[]:=by exact rfl)(ho:C.kR f id=[]:=by exact rfl):gH C f call ops m i [] ks S (yP σ C f id false rep x) Z:=adh (by rw[hz,ho];exact⟨_,rfl,_,rfl,hc⟩)
theorem K8{σ:Type}{rep:σ->ah}{x:σ}(hc:fh (C.kB f id) S=some (rep x))(hf:k9 (C.fI f id) ks=true:=by first|exact rfl|exact qA _ _ rfl|(apply qA;simp[Av, *];done)|(apply qA;simp only[Av,Bool.and_eq_true];(repeat' constructor)<;>first|assumption|rfl))(hz:C.mc f id=[]:=by exact rfl)(ho:C.kR f id=[]:=by exact rfl):gH C f call ops m i [] ks S (yP σ C f id true rep x) Z:=adi (by rw[hz,ho];exact⟨_,rfl,_,rfl,hc⟩) hf
variable{d:Nat}{ty:TypeId}{pos:String}{bl:Array Edge}{bO:Option (Nat×Bool)}{op:Op}{v:U}{g:Bool}
theorem aa6(i:Nat)(e:aP)(l:List eW):hkey i e l=hkey i e []++l:=by unfold hkey;split<;>simp
theorem D1{o:Oper}{e:aP}(hy:nR m o=true)(he:sM C f call S ops o=some e)(hs:(e.dR.all fun x=>decide (x.1<S.n))=true)(k:gH C f call ops (vB m i) (i+1) l (ks++hkey i e []) (S.app e) K Z):gH C f call ops m i (o::l) ks S K Z:=by obtain⟨x,h1,h2⟩:=k;refine⟨(x.1,hkey i e x.2), ?_, ?_⟩;·{simp only[jg,hy,he,if_true];rw[if_pos hs,h1];rfl};·rw[aa6];simpa using h2
theorem sB{d n:Nat}(h:A1 d n=true):decide (d<n)=true:=by simp[A1]at h|-;omega
theorem pp(he:bS C f call ⟨n,t,h⟩ true ⟨some d,op,ty,pos,bl,none⟩=some ⟨[(d,v)],[],[]⟩)(k:gH C f call ops (vB m i) (i+1) l ks ⟨n,ax t d v,h⟩ K Z)(hs:A1 d n=true:=by exact rfl)(hy:nR m ⟨some d,op,ty,pos,bl,none⟩=true:=by exact rfl):gH C f call ops m i (⟨some d,op,ty,pos,bl,none⟩::l) ks ⟨n,t,h⟩ K Z:=D1 (e:=⟨[(d,v)],[],[]⟩) hy he (by simpa using sB hs) (by simpa[hkey,ah.app]using k)
theorem rr{y:Id}{rd:List Id}(he:bS C f call ⟨n,t,h⟩ true ⟨some d,op,ty,pos,bl,none⟩=some ⟨[(d,v)],y::rd,[]⟩)(k:gH C f call ops (vB m i) (i+1) l (ks++[(i,y::rd,[])]) ⟨n,ax t d v,h⟩ K Z)(hs:A1 d n=true:=by exact rfl)(hy:nR m ⟨some d,op,ty,pos,bl,none⟩=true:=by exact rfl):gH C f call ops m i (⟨some d,op,ty,pos,bl,none⟩::l) ks ⟨n,t,h⟩ K Z:=D1 (e:=⟨[(d,v)],y::rd,[]⟩) hy he (by simpa using sB hs) (by simpa[hkey,ah.app]using k)
theorem ww{Ah:Option Nat}{dR:List (Nat×U)}{rd:List Id}{x:Id×Option Rows}{wr:List (Id×Option Rows)}(he:bS C f call ⟨n,t,h⟩ true ⟨Ah,op,ty,pos,bl,none⟩=some ⟨dR,rd,x::wr⟩)(k:gH C f call ops (vB m i) (i+1) l (ks++[(i,rd,(x::wr).map (·.1))]) ⟨n,dn t dR,bu h (x::wr)⟩ K Z)(hs:(dR.all fun x=>A1 x.1 n)=true:=by exact rfl)(hy:nR m ⟨Ah,op,ty,pos,bl,none⟩=true:=by exact rfl):gH C f call ops m i (⟨Ah,op,ty,pos,bl,none⟩::l) ks ⟨n,t,h⟩ K Z:=D1 (e:=⟨dR,rd,x::wr⟩) hy he (by rw[Hc]at hs|-;exact fun y hy=>sB (hs y hy)) (by simpa[hkey,ah.app]using k)
theorem aj{j:Nat}{wt:Bool}{l0:List Oper}(hg:zB wt ⟨n,t,h⟩ (sF l0 j)=some g)(he:bS C f call ⟨n,t,h⟩ g ⟨some d,op,ty,pos,bl,some (j,wt)⟩=some ⟨[(d,v)],[],[]⟩)(k:gH C f call ⟨l0⟩ (vB m i) (i+1) l ks ⟨n,ax t d (.dw g v),h⟩ K Z)(hs:A1 d n=true:=by exact rfl)(hy:nR m ⟨some d,op,ty,pos,bl,some (j,wt)⟩=true:=by exact rfl):gH C f call ⟨l0⟩ m i (⟨some d,op,ty,pos,bl,some (j,wt)⟩::l) ks ⟨n,t,h⟩ K Z:=D1 (e:=⟨[(d, .dw g v)],[],[]⟩) hy (by rw[Ox,hg,NZ,Oy,he];rfl) (by simpa using sB hs) (by simpa[hkey,ah.app]using k)
theorem pt{j:Nat}{wt:Bool}{l0:List Oper}(hg:zB wt ⟨n,t,h⟩ (sF l0 j)=some true)(he:bS C f call ⟨n,t,h⟩ true ⟨some d,op,ty,pos,bl,some (j,wt)⟩=some ⟨[(d,v)],[],[]⟩)(k:gH C f call ⟨l0⟩ (vB m i) (i+1) l ks ⟨n,ax t d (.dw true v),h⟩ K Z)(hs:A1 d n=true:=by exact rfl)(hy:nR m ⟨some d,op,ty,pos,bl,some (j,wt)⟩=true:=by exact rfl):gH C f call ⟨l0⟩ m i (⟨some d,op,ty,pos,bl,some (j,wt)⟩::l) ks ⟨n,t,h⟩ K Z:=aj hg he k hs hy
theorem gf{wt:Bool}{d:Nat}{u:U}{Ah:Option Nat}(hd:Ah=some d:=by exact rfl)(h:S.t d= .dw false u:=by exact rfl):zB wt S Ah=some false:=by subst hd;rw[O6,h];cases u with|val v=>(cases v<;>simp[zC])|_=>rfl
theorem no{d:Nat}{j:Nat}{wt:Bool}{l0:List Oper}(k:∀u ks',oB ks'=true->gH C f call ⟨l0⟩ (vB m i) (i+1) l (ks++ks') ⟨n,ax t d (.dw false u),h⟩ K Z)(hg:zB wt ⟨n,t,h⟩ (sF l0 j)=some false:=by first|exact gf|exact rfl)(hs:A1 d n=true:=by exact rfl)(hy:nR m ⟨some d,op,ty,pos,bl,some (j,wt)⟩=true:=by exact rfl):gH C f call ⟨l0⟩ m i (⟨some d,op,ty,pos,bl,some (j,wt)⟩::l) ks ⟨n,t,h⟩ K Z:=by have hj:∀(v:U)(rd:List Id),sM C f call ⟨n,t,h⟩ ⟨l0⟩ ⟨some d,op,ty,pos,bl,some (j,wt)⟩=some ⟨[(d, .dw false v)],rd,[]⟩->gH C f call ⟨l0⟩ m i (⟨some d,op,ty,pos,bl,some (j,wt)⟩::l) ks ⟨n,t,h⟩ K Z:=fun v rd he=>D1 hy he (by simpa using sB hs) (by have:=k v (hkey i ⟨[(d, .dw false v)],rd,[]⟩ []) (by unfold hkey oB;split<;>simp);simpa[ah.app,dn]using this);rw[Ox,hg,NZ,Oy]at hj;cases he:bS C f call ⟨n,t,h⟩ false ⟨some d,op,ty,pos,bl,some (j,wt)⟩with|none=>(exact hj .bD [] (by rw[he];rfl))|some e=>obtain⟨dR,rd,wr⟩:=e;cases wr with|cons x wr=>(exact hj .bD [] (by rw[he];rfl))|nil=>rcases L8 he with⟨v,hv⟩|⟨hv,_⟩;·{simp only[put]at hv;subst hv;exact hj v rd (by rw[he];rfl)};·exact absurd rfl hv
theorem c4{A B:Option ρ}{d:Nat}{p:Bool}(hF:(if p=true then A else B)=some r)(h1:A=some r->gH C f call ops m i l ks ⟨n,ax t d (.val (.bool true)),h⟩ K Z)(h2:B=some r->gH C f call ops m i l ks ⟨n,ax t d (.val (.bool false)),h⟩ K Z)(hd:t d= .val (.bool p):=by exact rfl):gH C f call ops m i l ks ⟨n,t,h⟩ K Z:=by have e:∀q,t d= .val (.bool q)->ax t d (.val (.bool q))=t:=fun q hq=>by{funext j;unfold ax;split;·{rename_i hj;subst hj;exact hq.symm};·rfl};cases p with|true=>(have:=h1 (by simpa using hF);rwa[e _ hd]at this)|false=>have:=h2 (by simpa using hF);rwa[e _ hd]at this
theorem lF{A B:Option ρ}{d:Nat}{p:Bool}(hF:(if p=true then A else B)=some r)(h1:A=some r->gH C f call ops m i l ks ⟨n,ax t d (.dw true (.val (.bool true))),h⟩ K Z)(h2:B=some r->gH C f call ops m i l ks ⟨n,ax t d (.dw true (.val (.bool false))),h⟩ K Z)(hd:t d= .dw true (.val (.bool p)):=by exact rfl):gH C f call ops m i l ks ⟨n,t,h⟩ K Z:=by have e:∀q,t d= .dw true (.val (.bool q))->ax t d (.dw true (.val (.bool q)))=t:=fun q hq=>by{funext j;unfold ax;split;·{rename_i hj;subst hj;exact hq.symm};·rfl};cases p with|true=>(have:=h1 (by simpa using hF);rwa[e _ hd]at this)|false=>have:=h2 (by simpa using hF);rwa[e _ hd]at this
end
/-! Ways of a panic. -/
end
open Go
theorem gV{α β:Type}(P:Program)(s:Sem α)(k:α->Sem β):c6 P (s>>=k)=(c6 P s).bind fun a=>c6 P (k a):=by show c6 P (s.bind k)=_;induction s with|pure a=>(rfl)|program k2 ih=>(simpa[Sem.bind,c6]using ih P)|_=>simp[Sem.bind,c6]
section
variable{P:Program}
theorem oz{α:Type}(a:α):c6 P (pure a:Sem α)=some a:=rfl
theorem GX:c6 P program=some P:=rfl
theorem pQ{t:TypeId}{d:TypeDesc}(h:P.underlying t=some d):c6 P (underlying t)=some d:=by unfold underlying;rw[gV,GX,AC,h];rfl
def Le:TypeDesc->Bool| .struct _=>false| .array _ _=>false|_=>true
theorem afc{t:TypeId}{d:TypeDesc}(h:P.underlying t=some d)(hd:Le d=true):c6 P (isAgg t)=some false:=by unfold isAgg;rw[gV,pQ h,AC];cases d<;>first|rfl|cases hd
theorem RE{t:TypeId}{d:TypeDesc}{cs:Array Value}{off:Nat}{v:Value}(h:P.underlying t=some d)(hd:Le d=true)(hv:cs[off]? =some v):c6 P (part t cs off)=some v:=by unfold part;rw[gV,afc h hd,AC,hv];rfl
theorem RD(d:Nat)(t:TypeId)(xs ys:Array Value)(ht:P.underlying t=some (.struct (P.fieldsOf t)))(hp:P.stoodInHeld t=false):c6 P (Op.equalIn (d+1) t (.agg xs) (.agg ys))=c6 P (Op.eqFields d xs ys (P.fieldsOf t).toList):=by simp only[Op.equalIn,gV,pQ ht,AC,GX,hp,Do,if_false];rw[<-Array.forIn_toList];generalize(P.fieldsOf t).toList=fs;clear ht;induction fs with|nil=>(rfl)|cons f fs ih=>simp only[List.forIn_cons,Op.eqFields,gV];split;·{simp only[gV];cases c6 P (part f.type xs f.offset)with|none=>(rfl)|some a=>simp only[AC];cases c6 P (part f.type ys f.offset)with|none=>(rfl)|some b=>simp only[AC];cases c6 P (Op.equalIn d f.type a b)with|none=>(rfl)|some r=>cases r;·{rfl};·simp only[AC,Bool.not_true,Do,if_false,oz];exact ih};·simp only[oz,AC];exact ih
def D2:Value->Value->Option Bool| .int k a, .int k' b=>if k=k' then some (a==b)else none| .bool a, .bool b=>some (a==b)| .string a, .string b=>some (a.toList==b.toList)|_,_=>none
def fits:TypeDesc->Value->Bool| .int _, .int _ _=>true| .bool, .bool _=>true| .string, .string _=>true|_,_=>false
theorem afb{d:Nat}{t:TypeId}{D:TypeDesc}{x y:Value}{b:Bool}(h:P.underlying t=some D)(hf:fits D x=true)(he:D2 x y=some b):c6 P (Op.equalIn (d+1) t x y)=some b:=by
 cases x<;>cases D<;>simp only[fits,Do]at hf<;>cases y<;>simp only[D2]at he<;>try cases he
 ·simp[Op.equalIn,gV,pQ h,oz]
 ·split at he
  ·rename_i hk;subst hk
   simp only[H5]at he;subst he
   simp[Op.equalIn,gV,pQ h,oz]
  ·cases he
 ·simp[Op.equalIn,gV,pQ h,oz,beq_toListBytes]
def ux(P:Program)(xs ys:Array Value):List Field->Option Bool|[]=>some true|f::fs=>if f.name≠ "_" then match P.underlying f.type,xs[f.offset]?,ys[f.offset]? with|some D,some x,some y=>if fits D x then(D2 x y).bind fun b=>(ux P xs ys fs).map (b&&·)else none|_,_,_=>none else none
theorem LG{d:Nat}{xs ys:Array Value}:∀{fs:List Field}{b:Bool},ux P xs ys fs=some b->c6 P (Op.eqFields (d+1) xs ys fs)=some b|[],b,h=>by{simp[ux]at h;subst h;rfl}|f::fs,b,h=>by unfold ux at h;split at h;·{rename_i hn;split at h;·{rename_i D x y hD hx hy;split at h;·{rename_i hf;simp only[Ha,Lk]at h;obtain⟨b1,h1,b2,h2,rfl⟩:=h;have hd:Le D=true:=by{cases D<;>cases x<;>simp[fits]at hf<;>rfl};simp only[Op.eqFields];rw[if_pos hn];simp only[gV,RE hD hd hx,RE hD hd hy,AC,afb hD hf h1];cases b1;·{rfl};·simpa using LG h2};·cases h};·cases h};·cases h
theorem WM{t:TypeId}{x y:Operand}{xs ys:Array Value}{fs:Array Field}{b:Bool}(hf:P.underlying t=some (.struct fs))(hp:P.stoodInHeld t=false)(hm:P.eqGuardType P.depth t=false)(he:ux P xs ys fs.toList=some b):ez P .eql t x y (.agg xs) (.agg ys)=some (.bool b):=by have e:P.fieldsOf t=fs:=by{unfold Program.fieldsOf;rw[hf]};unfold ez;have e1:c6 P (eqGuard .eql t x y (.agg xs) (.agg ys))=some ():=by{simp[eqGuard,gV,GX,hm,oz]};rw[gV,e1,AC];simp only[binOp,Op.equal,Op.maxDepth];rw[gV,RD 9999 t xs ys (by rw[e];exact hf) hp,e,LG he];rfl
theorem WU{t:TypeId}{x y:Operand}{xs ys:Array Value}{fs:Array Field}{b:Bool}(hf:P.underlying t=some (.struct fs))(hp:P.stoodInHeld t=false)(hm:P.eqGuardType P.depth t=false)(he:ux P xs ys fs.toList=some b):ez P .neq t x y (.agg xs) (.agg ys)=some (.bool (!b)):=by have e:P.fieldsOf t=fs:=by{unfold Program.fieldsOf;rw[hf]};unfold ez;have e1:c6 P (eqGuard .neq t x y (.agg xs) (.agg ys))=some ():=by{simp[eqGuard,gV,GX,hm,oz]};rw[gV,e1,AC];simp only[binOp,Op.equal,Op.maxDepth];rw[gV,RD 9999 t xs ys (by rw[e];exact hf) hp,e,LG he];rfl
end
open Go
inductive ck where|nil|code(n:Int)|other deriving DecidableEq,Inhabited
def gJ(t:TypeId):ck->U| .nil=> .val .nilIface| .code n=> .val (.iface t (.int .i64 n))| .other=> .nn
/-! ### Facts about the program's types, found by their numbers -/
class eJ(C:aC)(t:TypeId)(d:outParam TypeDesc):Prop where ul:C.P.underlying t=some d
class ew(C:aC)(t:TypeId)(b:outParam Bool)(n:outParam Nat):Prop where
 mQ:kI C t=some b
 sz:iC C t=some n
class Fd(C:aC)(t i:Nat)(off n:outParam Nat)(b:outParam Bool):Prop where fd:Cb C t i=some (off,n,b)
class qc(C:aC)(t:TypeId)(cs:outParam (List U)):Prop where ku:yI C t=some cs
class um(C:aC)(t:TypeId)(cs:outParam (List U)):Prop where Ts:yJ C t=some cs
class Pl(C:aC)(t:TypeId)(pl:outParam (List (Nat×Nat×Bool))):Prop where pl:LD C t=some pl
def BL(C:aC)(e:TypeId)(m:Nat):Bool:=match C.P.info? e with|some i=>i.size==m&&decide (0<m)&&decide (i.bytes<=4096)&&EH i|none=>false
class Bp(C:aC)(e:TypeId)(m:outParam Nat):Prop where ao:BL C e m=true
class yN{α:Type}(c:α->List U):Prop where fl:∀x,dz (c x)=true
class ER{α:Type}(c:α->List U):Prop where
 im:∀x,fK (c x)=true
 ce:∀x,(c x).all U.cell=true
class Mz{α:Type}(c:α->List U)(c':outParam (α->List U)):Prop where dN:∀x,jw (c x)=c' x
class aih{α:Type}(c:α->List U):Prop where mi:∀x,mw (c x)=true
section
variable{g g' h k:Bool}{x:U}
theorem Ht{t:TypeId}{e:ck}:un g (gJ t e)=gJ t e:=by cases e<;>cases g<;>rfl
theorem ahE{p:Bool}:un (true&&p) (.dw (p==true) x)=x:=by cases p<;>rfl
theorem ahF{p:Bool}:un (true&& !p) (.dw (p==false) x)=x:=by cases p<;>rfl
theorem ahG{p:Bool}:un (g&&p) (.dw (g&&(p==true)) x)=x:=by cases p<;>cases g<;>rfl
end
theorem cz{a b:U}(h:a=b:=by first|exact S5 _|exact Ht|exact ahD|exact anb|exact ahE|exact ahF|exact ahG|exact am7|exact amZ|exact am0|exact am3|exact am1|exact am2):a=b:=h
theorem gt{a b:U}(h:a=b:=by first|exact(rfl:_=U.val _)|exact(rfl:_=U.sl _)|exact(rfl:_=U.rs _ _ _)|exact(rfl:_=U.mp _ _ _)|exact(rfl:_=U.aT _)|exact(rfl:_=U.agg _)|exact(rfl:_=U.cG)|exact(rfl:_=U.aV _)|exact(rfl:_=U.fn _ _ _)|exact Ht|exact ahD|exact(rfl:_=U.nn)|exact(rfl:_=U.mr _)|exact(rfl:_=U.im _)|exact(rfl:_=U.eN _)|exact cz):a=b:=h
theorem agS{α:Type}{a:α}{l t t':List α}(h:l=a::t)(k:t=t'):l=a::t':=by rw[h,k]
theorem agT{α:Type}{l:List α}(h:l=[]:=by exact rfl):l=[]:=h
theorem spine{α:Type}{a b:List α}(h:a=b:=by repeat(first|exact agT|apply agS rfl)):a=b:=h
theorem ab8{α:Type}{o:Option α}(h:o=none):o.isNone=true:=by rw[h];rfl
section
variable{C:aC}{f:FuncId}{call:gG}{S:ah}{g:Bool}
variable{d:Nat}{ty:TypeId}{pos:String}{bl:Array Edge}{bO:Option (Nat×Bool)}{v v':U}
variable{x y z:Operand}{k:IntKind}{a b:Int}{T dO:TypeId}
theorem aa(h:un g (S.get C x)=v:=by exact gt):bS C f call S g ⟨some d, .move x,ty,pos,bl,bO⟩=some ⟨[(d,v)],[],[]⟩:=by subst h;rfl
theorem af(h:un g (S.get C x)=v:=by exact gt):bS C f call S g ⟨some d, .assign x,ty,pos,bl,bO⟩=some ⟨[(d,v)],[],[]⟩:=by subst h;rfl
theorem ow{op:BinOp}{Nz NA:U}{eT iq nu:Value}(hx:un g (S.get C x)=Nz)(hy:un g (S.get C y)=NA)(h1:nt Nz=some eT)(h2:nt NA=some iq)(hb:ez C.P op T x y eT iq=some nu)(hs:fZ nu=true):bS C f call S g ⟨some d, .binOp op T x y dO,ty,pos,bl,bO⟩=some ⟨[(d, .val nu)],[],[]⟩:=by show sJ C _ op T x y (un g (S.get C x)) (un g (S.get C y))=_;rw[hx,hy];simp[sJ,h1,h2,hb,hs]
theorem pN{op:BinOp}{nu:Value}(hb:ez C.P op T x y (.int k a) (.int k b)=some nu)(hs:fZ nu=true)(hx:un g (S.get C x)= .val (.int k a))(hy:un g (S.get C y)= .val (.int k b)):bS C f call S g ⟨some d, .binOp op T x y dO,ty,pos,bl,bO⟩=some ⟨[(d, .val nu)],[],[]⟩:=ow hx hy rfl rfl hb hs
theorem c7(hx:un g (S.get C x)= .val (.int k a):=by first|exact rfl|exact cz)(hy:un g (S.get C y)= .val (.int k b):=by first|exact rfl|exact cz):bS C f call S g ⟨some d, .binOp .add T x y dO,ty,pos,bl,bO⟩=some ⟨[(d, .val (.int k (k.wrap (a+b))))],[],[]⟩:=pN WI rfl hx hy
theorem fF(hx:un g (S.get C x)= .val (.int k a):=by first|exact rfl|exact cz)(hy:un g (S.get C y)= .val (.int k b):=by first|exact rfl|exact cz):bS C f call S g ⟨some d, .binOp .sub T x y dO,ty,pos,bl,bO⟩=some ⟨[(d, .val (.int k (k.wrap (a-b))))],[],[]⟩:=pN WX rfl hx hy
theorem Q3(hx:un g (S.get C x)= .val (.int k a):=by first|exact rfl|exact cz)(hy:un g (S.get C y)= .val (.int k b):=by first|exact rfl|exact cz):bS C f call S g ⟨some d, .binOp .mul T x y dO,ty,pos,bl,bO⟩=some ⟨[(d, .val (.int k (k.wrap (a*b))))],[],[]⟩:=pN WS rfl hx hy
theorem aq(hx:un g (S.get C x)= .val (.int k a):=by first|exact rfl|exact cz)(hy:un g (S.get C y)= .val (.int k b):=by first|exact rfl|exact cz):bS C f call S g ⟨some d, .binOp .eql T x y dO,ty,pos,bl,bO⟩=some ⟨[(d, .val (.bool (a==b)))],[],[]⟩:=pN WK rfl hx hy
theorem ic(hx:un g (S.get C x)= .val (.int k a):=by first|exact rfl|exact cz)(hy:un g (S.get C y)= .val (.int k b):=by first|exact rfl|exact cz):bS C f call S g ⟨some d, .binOp .neq T x y dO,ty,pos,bl,bO⟩=some ⟨[(d, .val (.bool (a !=b)))],[],[]⟩:=pN WT rfl hx hy
theorem dx(hx:un g (S.get C x)= .val (.int k a):=by first|exact rfl|exact cz)(hy:un g (S.get C y)= .val (.int k b):=by first|exact rfl|exact cz):bS C f call S g ⟨some d, .binOp .lss T x y dO,ty,pos,bl,bO⟩=some ⟨[(d, .val (.bool (decide (a<b))))],[],[]⟩:=pN WR rfl hx hy
theorem e9(hx:un g (S.get C x)= .val (.int k a):=by first|exact rfl|exact cz)(hy:un g (S.get C y)= .val (.int k b):=by first|exact rfl|exact cz):bS C f call S g ⟨some d, .binOp .leq T x y dO,ty,pos,bl,bO⟩=some ⟨[(d, .val (.bool (decide (a<=b))))],[],[]⟩:=pN WQ rfl hx hy
theorem eG(hx:un g (S.get C x)= .val (.int k a):=by first|exact rfl|exact cz)(hy:un g (S.get C y)= .val (.int k b):=by first|exact rfl|exact cz):bS C f call S g ⟨some d, .binOp .gtr T x y dO,ty,pos,bl,bO⟩=some ⟨[(d, .val (.bool (decide (b<a))))],[],[]⟩:=pN WO rfl hx hy
theorem eR(hx:un g (S.get C x)= .val (.int k a):=by first|exact rfl|exact cz)(hy:un g (S.get C y)= .val (.int k b):=by first|exact rfl|exact cz):bS C f call S g ⟨some d, .binOp .geq T x y dO,ty,pos,bl,bO⟩=some ⟨[(d, .val (.bool (decide (b<=a))))],[],[]⟩:=pN WN rfl hx hy
theorem WL{P:Program}{a b:ByteArray}:ez P .eql T x y (.string a) (.string b)=some (.bool (a.toList==b.toList)):=by simp[ez,eqGuard,binOp,Op.stringOp,c6,bind,Sem.bind,pure]
theorem e7{a b:ByteArray}(hx:un g (S.get C x)= .val (.string a):=by first|exact rfl|exact cz)(hy:un g (S.get C y)= .val (.string b):=by first|exact rfl|exact cz):bS C f call S g ⟨some d, .binOp .eql T x y dO,ty,pos,bl,bO⟩=some ⟨[(d, .val (.bool (a.toList==b.toList)))],[],[]⟩:=ow hx hy rfl rfl WL rfl
theorem Lq{op:BinOp}{xs ys:List U}{vx vy:List Value}{q:Bool}(hb:ez C.P op T x y (.agg ⟨vx⟩) (.agg ⟨vy⟩)=some (.bool q))(hx:un g (S.get C x)= .agg xs:=by first|exact rfl|exact cz)(hy:un g (S.get C y)= .agg ys:=by first|exact rfl|exact cz)(h1:iY xs=some vx:=by exact rfl)(h2:iY ys=some vy:=by exact rfl):bS C f call S g ⟨some d, .binOp op T x y dO,ty,pos,bl,bO⟩=some ⟨[(d, .val (.bool q))],[],[]⟩:=ow hx hy (by simp[nt,h1]) (by simp[nt,h2]) hb rfl
theorem gB{p:Bool}(hx:un g (S.get C x)= .val (.bool p):=by first|exact rfl|exact cz):bS C f call S g ⟨some d, .unOp .not T x,ty,pos,bl,bO⟩=some ⟨[(d, .val (.bool !p))],[],[]⟩:=by show wA C _ .not (un g (S.get C x))=_;rw[hx];rfl
theorem adJ{op:UnOp}{eT nu:Value}(hb:ED C.P op eT=some nu)(hs:fZ nu=true)(hx:un g (S.get C x)= .val eT:=by first|exact rfl|exact cz):bS C f call S g ⟨some d, .unOp op T x,ty,pos,bl,bO⟩=some ⟨[(d, .val nu)],[],[]⟩:=by show wA C _ op (un g (S.get C x))=_;rw[hx];simp[hb,hs]
theorem adF{eT nu:Value}(hb:Fv C.P T dO eT=some nu)(hx:un g (S.get C x)= .val eT:=by first|exact rfl|exact cz)(hs:fZ nu=true:=by exact rfl)(hnb:uq C T dO=false:=by first|rfl|decide):bS C f call S g ⟨some d, .convert T dO x,ty,pos,bl,bO⟩=some ⟨[(d, .val nu)],[],[]⟩:=by show sL C _ T dO (un g (S.get C x))=_;rw[hx,YY hnb];simp[hb,hs]
theorem aR{p q r:Bool}(hx:un g (S.get C x)= .val (.bool p):=by first|exact rfl|exact cz)(hy:un (g&&p) (S.get C y)= .val (.bool q):=by first|exact rfl|exact cz)(hz:un (g&& !p) (S.get C z)= .val (.bool r):=by first|exact rfl|exact cz):bS C f call S g ⟨some d, .pick x y z,ty,pos,bl,bO⟩=some ⟨[(d, .val (.bool (if p then q else r)))],[],[]⟩:=by show uE _ (un g (S.get C x)) (un (g&&mR (un g (S.get C x))) (S.get C y)) (un (g&& !mR (un g (S.get C x))) (S.get C z))=_;rw[hx];simp only[mR];rw[hy,hz];rfl
theorem bW{q:Bool}(hx:un g (S.get C x)= .val (.bool true):=by exact rfl)(hy:un (g&&true) (S.get C y)= .val (.bool q):=by first|exact rfl|exact cz):bS C f call S g ⟨some d, .pick x y z,ty,pos,bl,bO⟩=some ⟨[(d, .val (.bool q))],[],[]⟩:=by show uE _ (un g (S.get C x)) (un (g&&mR (un g (S.get C x))) (S.get C y)) (un (g&& !mR (un g (S.get C x))) (S.get C z))=_;rw[hx];simp only[mR];rw[hy];generalize un (g&& !true) (S.get C z)=w;cases w with|val v=>(cases v<;>rfl)|_=>rfl
theorem bh{q:Bool}(hx:un g (S.get C x)= .val (.bool false):=by exact rfl)(hz:un (g&&true) (S.get C z)= .val (.bool q):=by first|exact rfl|exact cz):bS C f call S g ⟨some d, .pick x y z,ty,pos,bl,bO⟩=some ⟨[(d, .val (.bool q))],[],[]⟩:=by show uE _ (un g (S.get C x)) (un (g&&mR (un g (S.get C x))) (S.get C y)) (un (g&& !mR (un g (S.get C x))) (S.get C z))=_;rw[hx];simp only[mR,Bool.not_false];rw[hz];generalize un (g&&false) (S.get C y)=w;cases w with|val v=>(cases v<;>rfl)|_=>rfl
/-! ### Memory that does not change -/
theorem iJ{bb:Bool}{m:Nat}{cs cs':List U}[ha:ew C T bb m](hin:(C.gx f).contains d=true:=by exact rfl)(hx:un g (S.get C x)=v:=by exact gt)(hc:oZ bb v=some cs:=by exact rfl)(hz:kP cs=cs':=by exact spine)(hi:fK cs'=true:=by exact rfl):bS C f call S g ⟨some d, .box T x,ty,pos,bl,bO⟩=some ⟨[(d, .aT cs')],[],[]⟩:=by show qj C f S _ T (un g (S.get C x))=_;simp only[qj,ha.mQ,hx,hc,fM,hin,hz,hi,Nm,if_true];rfl
theorem ak{m:Nat}{cells cs:List U}[ha:ew C T false m](hx:un g (S.get C x)= .aT cells:=by first|exact rfl|exact cz)(hm:m=1:=by exact rfl)(hv:cells=v::cs:=by exact rfl):bS C f call S g ⟨some d, .load T x,ty,pos,bl,bO⟩=some ⟨[(d,v)],[],[]⟩:=by show mT C S _ T (un g (S.get C x))=_;subst hm hv;simp[mT,ha.mQ,ha.sz,hx,kg]
theorem b9{m:Nat}{cells cs:List U}[ha:ew C T true m](hx:un g (S.get C x)= .aT cells:=by first|exact rfl|exact cz)(hl:GT m cells.length=true:=by exact rfl)(hv:cells.take m=cs:=by exact spine):bS C f call S g ⟨some d, .load T x,ty,pos,bl,bO⟩=some ⟨[(d, .agg cs)],[],[]⟩:=by show mT C S _ T (un g (S.get C x))=_;have hl':m<=cells.length:=Hb hl;simp[mT,ha.mQ,ha.sz,hx,hl',hv,kg]
theorem au{i off m:Nat}{bb:Bool}{cells:List U}[hf:Fd C T i off m bb](hx:un g (S.get C x)= .aT cells:=by first|exact rfl|exact cz)(h0:A1 0 m=true:=by exact rfl)(hl:GT off cells.length=true:=by exact rfl)(hz:(C.gx f).contains d=false:=by exact rfl):bS C f call S g ⟨some d, .fieldAddr T x i,ty,pos,bl,bO⟩=some ⟨[(d, .aT (cells.drop off))],[],[]⟩:=by show uA C f _ T i (un g (S.get C x))=_;have hl':off<=cells.length:=Hb hl;have h0':0<m:=of_decide_eq_true (sB h0);simp only[uA,hf.fd,hx,fM,hz];rw[if_pos ⟨h0',hl'⟩];rfl
theorem bX{e:TypeId}{m:Nat}{bb:Bool}{α:Type}{c:α->List U}{q:List α}{i:Int}{r:α}(hi:idx q i=some r)[hu:eJ C T (.slice e)][hs:ew C e bb m](hx:un g (S.get C x)= .sl (q.map c):=by first|exact rfl|exact cz)(hy:un g (S.get C y)= .val (.int k i):=by first|exact rfl|exact cz)(h0:A1 0 m=true:=by exact rfl)(hr:(c r).length=m:=by exact rfl):bS C f call S g ⟨some d, .indexAddr T x y,ty,pos,bl,bO⟩=some ⟨[(d, .aT (c r))],[],[]⟩:=by show qk C S _ T (un g (S.get C x)) (eP (un g (S.get C y)))=_;have h0':0<m:=of_decide_eq_true (sB h0);have h1:=abR (c:=c) hi;unfold idx at h1;split at h1;·{rename_i hp;simp only[hx,hy,eP,qk,hu.ul,hs.sz,if_pos hp,h1,AC];simp[hr,h0']};·cases h1
def bP(s:ByteArray)(i:Int):Option UInt8:=if 0<=i then s[i.toNat]? else none
theorem cA{s:ByteArray}{i:Int}{r:UInt8}(hi:bP s i=some r)[hu:eJ C T .string](hx:un g (S.get C x)= .val (.string s):=by first|exact rfl|exact cz)(hy:un g (S.get C y)= .val (.int k i):=by first|exact rfl|exact cz):bS C f call S g ⟨some d, .index T x y,ty,pos,bl,bO⟩=some ⟨[(d, .val (.int .u8 r.toNat))],[],[]⟩:=by show uC C _ T (un g (S.get C x)) (eP (un g (S.get C y)))=_;unfold bP at hi;split at hi;·{rename_i hp;simp only[hx,hy,eP,uC,hu.ul,if_pos hp,hi,AC];rfl};·cases hi
section
variable{e:TypeId}{xs:Array Operand}{ts:Array TypeId}{T:TypeId}
theorem dm{α:Type}{c:α->List U}{q:List α}(hx:un g (S.get C x)= .sl (q.map c):=by first|exact rfl|exact cz)[hu:eJ C T (.slice e)]:bS C f call S g ⟨some d, .call ⟨.builtin .len,⟨[x]⟩,⟨[T]⟩⟩,ty,pos,bl,bO⟩=some ⟨[(d, .val (.int .i64 q.length))],[],[]⟩:=by show rm C _ _ ([x].map fun x=>un g (S.get C x))=_;simp[hx,rm,hu.ul,C8,C9,FT]
theorem adG{id:Id}{off m m':Nat}(hx:un g (S.get C x)= .rs id off m':=by first|exact rfl|exact cz)(hm:m'=m:=by first|exact List.length_map _|exact rfl)[hu:eJ C T (.slice e)]:bS C f call S g ⟨some d, .call ⟨.builtin .len,⟨[x]⟩,⟨[T]⟩⟩,ty,pos,bl,bO⟩=some ⟨[(d, .val (.int .i64 m))],[],[]⟩:=by show rm C _ _ ([x].map fun x=>un g (S.get C x))=_;simp[hx,rm,hu.ul,C8,C9,FT,hm]
theorem eM{s:ByteArray}(hx:un g (S.get C x)= .val (.string s):=by first|exact rfl|exact cz)[hu:eJ C T .string]:bS C f call S g ⟨some d, .call ⟨.builtin .len,⟨[x]⟩,⟨[T]⟩⟩,ty,pos,bl,bO⟩=some ⟨[(d, .val (.int .i64 s.size))],[],[]⟩:=by show rm C _ _ ([x].map fun x=>un g (S.get C x))=_;simp[hx,rm,hu.ul,C8,FT]
end
theorem afg:([]:List (Nat×Operand)).map (fun p=>(p.1,un g (S.get C p.2)))=[]:=rfl
theorem aff{i:Nat}{l:List (Nat×Operand)}{l':List (Nat×U)}(hx:un g (S.get C x)=v)(k:l.map (fun p=>(p.1,un g (S.get C p.2)))=l'):((i,x)::l).map (fun p=>(p.1,un g (S.get C p.2)))=(i,v)::l':=by simp[hx,k]
theorem RF{l:List (Nat×Operand)}{l':List (Nat×U)}(h:l.map (fun p=>(p.1,un g (S.get C p.2)))=l':=by repeat(first|exact afg|(apply aff;exact gt))):l.map (fun p=>(p.1,un g (S.get C p.2)))=l':=h
theorem dP{p:List (Nat×Operand)}{ku cs cs0:List U}{pl:List (Nat×Nat×Bool)}{ps:List (Nat×U)}[hz:qc C T ku][hp:Pl C T pl](hq:(p.map fun p=>(p.1,un g (S.get C p.2)))=ps:=by exact RF)(hf:zn pl ku ps=some cs0:=by exact rfl)(hc:cs0=cs:=by exact spine)(mj:C.yK f d=[]:=by exact rfl):bS C f call S g ⟨some d, .build T ⟨p⟩,ty,pos,bl,bO⟩=some ⟨[(d, .agg cs)],[],[]⟩:=by show zk C f _ T (p.map fun p=>(p.1,un g (S.get C p.2)))=_;rw[hq];simp[zk,hz.ku,hp.pl,hf,hc,HE,mj,yL]
theorem Li{eE:Fn}{fs cs:Array Operand}{fa fb:List U}(ha:(fs.toList.map fun x=>un g (S.get C x))=fa:=by exact spine)(hb:(cs.toList.map fun x=>un g (S.get C x))=fb:=by exact spine):bS C f call S g ⟨some d, .makeFunc eE fs cs,ty,pos,bl,bO⟩=some ⟨[(d, .fn eE fa fb)],[],[]⟩:=by subst ha hb;rfl
theorem e8{vs:List U}{i:Nat}(hx:un g (S.get C x)= .aV vs:=by first|exact rfl|exact cz)(hi:vs[i]? =some v:=by exact rfl):bS C f call S g ⟨some d, .extract x i,ty,pos,bl,bO⟩=some ⟨[(d,v)],[],[]⟩:=by show zl _ (un g (S.get C x)) i=_;rw[hx];simp[zl,hi]
theorem pM(hx:un g (S.get C x)=v:=by exact gt)(hv:(match v with| .aT _| .mp _ _ _| .fn (.func _) _ _=>true|_=>false)=true:=by exact rfl):bS C f call S g ⟨some d, .nilCheck x,ty,pos,bl,bO⟩=some ⟨[(d,v)],[],[]⟩:=by show B8 _ (un g (S.get C x))=_;rw[hx];cases v with|fn eE a b=>(cases eE<;>first|rfl|cases hv)|aT _=>(rfl)|mp _ _ _=>(rfl)|_=>cases hv
theorem acW{P:Program}{ts:Array TypeId}{k:IntKind}{a b:Int}:Gu P ts ty [.int k a, .int k b]=some (.int k (max a b)):=by have e:(if b>a then b else a)=max a b:=by{omega};simp[Gu,Builtin.max_,Builtin.max2,c6,List.foldlM,bind,Sem.bind,pure,e]
theorem acX{P:Program}{ts:Array TypeId}{k:IntKind}{a b:Int}:Gv P ts ty [.int k a, .int k b]=some (.int k (min a b)):=by have e:(if b<a then b else a)=min a b:=by{omega};simp[Gv,Builtin.min_,Builtin.min2,c6,List.foldlM,bind,Sem.bind,pure,e]
theorem Lm{k:IntKind}{a b:Int}{ts:Array TypeId}(hx:un g (S.get C x)= .val (.int k a):=by first|exact rfl|exact cz)(hy:un g (S.get C y)= .val (.int k b):=by first|exact rfl|exact cz):bS C f call S g ⟨some d, .call ⟨.builtin .max,⟨[x,y]⟩,ts⟩,ty,pos,bl,bO⟩=some ⟨[(d, .val (.int k (max a b)))],[],[]⟩:=by show(match iY ([x,y].map fun x=>un g (S.get C x))with|some vs=>lE _ (Gu C.P ts ty vs)|none=>none)=_;simp only[Hd,Hk,hx,hy,iY,GE,acW];rfl
theorem Q2{k:IntKind}{a b:Int}{ts:Array TypeId}(hx:un g (S.get C x)= .val (.int k a):=by first|exact rfl|exact cz)(hy:un g (S.get C y)= .val (.int k b):=by first|exact rfl|exact cz):bS C f call S g ⟨some d, .call ⟨.builtin .min,⟨[x,y]⟩,ts⟩,ty,pos,bl,bO⟩=some ⟨[(d, .val (.int k (min a b)))],[],[]⟩:=by show(match iY ([x,y].map fun x=>un g (S.get C x))with|some vs=>lE _ (Gv C.P ts ty vs)|none=>none)=_;simp only[Hd,Hk,hx,hy,iY,GE,acX];rfl
/-! ### Parts of slices and strings -/
def slc{α:Type}(l:List α)(lo hi:Option Int):Option (List α):=(bounds (lo.map some) (hi.map some) l.length).map fun p=>(l.take p.2).drop p.1
def eS(s:ByteArray)(lo hi:Option Int):Option ByteArray:=(bounds (lo.map some) (hi.map some) s.size).map fun p=>s.extract p.1 p.2
theorem Fm:(none.map fun y=>eP (un g (S.get C y)))=(none:Option Int).map some:=rfl
theorem Fo{n:Int}(h:un g (S.get C y)= .val (.int k n):=by first|exact rfl|exact cz):((some y).map fun y=>eP (un g (S.get C y)))=(some n).map some:=by show some (eP (un g (S.get C y)))=_;rw[h];rfl
theorem Ih{α:Type}{c:α->List U}{q:List α}{m:Nat}(hc:∀x,(c x).length=m):(q.map c).all (·.length==m)=true:=by simp[hc]
theorem Lo{e:TypeId}{α:Type}{c:α->List U}{q r:List α}{lo hi:Option Operand}{lo' hi':Option Int}{m:Nat}{bb:Bool}(hr:slc q lo' hi'=some r)[hu:eJ C T (.slice e)][hs:ew C e bb m](hx:un g (S.get C x)= .sl (q.map c):=by first|exact rfl|exact cz)(h1:(lo.map fun y=>eP (un g (S.get C y)))=lo'.map some:=by first|exact Fm|exact Fo)(h2:(hi.map fun y=>eP (un g (S.get C y)))=hi'.map some:=by first|exact Fm|exact Fo)(h0:A1 0 m=true:=by exact rfl)(hl:∀x,(c x).length=m:=by exact fun _=>rfl):bS C f call S g ⟨some d, .slice T x lo hi none,ty,pos,bl,bO⟩=some ⟨[(d, .sl (r.map c))],[],[]⟩:=by unfold slc at hr;obtain⟨p,hp,rfl⟩:=Option.map_eq_some_iff.1 hr;show ql C S _ T (un g (S.get C x)) _ _=_;have h0':0<m:=of_decide_eq_true (sB h0);rw[hx];simp only[ql,hu.ul,hs.sz,h1,h2,List.length_map,hp,AC];rw[if_pos ⟨h0',Ih hl⟩];simp[ret,put]
theorem ki{s r:ByteArray}{lo hi:Option Operand}{lo' hi':Option Int}(hr:eS s lo' hi'=some r)[hu:eJ C T .string](hx:un g (S.get C x)= .val (.string s):=by first|exact rfl|exact cz)(h1:(lo.map fun y=>eP (un g (S.get C y)))=lo'.map some:=by first|exact Fm|exact Fo)(h2:(hi.map fun y=>eP (un g (S.get C y)))=hi'.map some:=by first|exact Fm|exact Fo):bS C f call S g ⟨some d, .slice T x lo hi none,ty,pos,bl,bO⟩=some ⟨[(d, .val (.string r))],[],[]⟩:=by show ql C S _ T (un g (S.get C x)) (lo.map fun y=>eP (un g (S.get C y))) (hi.map fun y=>eP (un g (S.get C y)))=_;unfold eS at hr;obtain⟨p,hp,rfl⟩:=Option.map_eq_some_iff.1 hr;rw[hx,h1,h2];simp only[ql,hu.ul,hp,AC];rfl
end
open Go
theorem YT{t:TypeId}(e:ck):fQ (gJ t e)=true:=by cases e<;>rfl
theorem ZS{t:TypeId}{e:ck}:dN (gJ t e)=gJ t e:=by cases e<;>rfl
theorem P1{t:TypeId}{e:ck}{p:Id}:imp p (gJ t e)=(gJ t e,[]):=by cases e<;>rfl
theorem abV{t:TypeId}{e:ck}{p:Id}{j:Nat}:fL p j [gJ t e]=([gJ t e],[]):=by cases e<;>rfl
/-! ### Owned cells become objects -/
section
variable{α:Type}{c:α->List U}{q:List α}{p:Id}{j:Nat}{l l0 l':List U}{v v':U}{wr:List (Id×Option Rows)}{rows:Rows}
theorem ahL:bR p j []=([],[]):=rfl
theorem ahK(hl:l=v::l0)(hv:bR p j [v]=([v],[]))(k:bR p (j+1) l0=(l',wr)):bR p j l=(v::l',wr):=by subst hl;cases v<;>simp_all[bR]
theorem ahM{m:Nat}(hl:l= .own (q.map c) m::l0)(k:bR p (j+1) l0=(l',wr)):bR p j l=(.rs (j::p) 0 m::l',(j::p,some (q.map c))::wr):=by subst hl;simp[bR,k]
theorem EF(h:bR p j l=(l',wr):=by repeat'(first|exact ahL|(apply ahK;exact rfl;(first|exact rfl|exact anh|exact S8))|(apply ahM;exact rfl)|(apply ani;exact rfl)|(apply anj;exact rfl))):bR p j l=(l',wr):=h
theorem ab0{m:Nat}:imp p (.own (q.map c) m)=(.rs p 0 m,[(p,some (q.map c))]):=by simp[imp]
theorem abZ(h:bR p 0 l=(l',wr)):imp p (.agg l)=(.agg l',wr):=by simp[imp,h]
theorem ab1(h:bR p 0 l=(l',wr)):imp p (.b5 l)=(.mp p 0 0,(p,some [l'])::wr):=by simp[imp,h]
theorem abX:fL p j []=([],[]):=rfl
theorem abW(hl:l=v::l0)(hv:fL p j [v]=([v],[]))(k:fL p (j+1) l0=(l',wr)):fL p j l=(v::l',wr):=by subst hl;cases v with|own rows m=>(simp[fL]at hv)|b5 cells=>(simp[fL]at hv)|eN rows=>(simp[fL]at hv)|agg cs=>(simp only[fL,List.append_nil,Prod.mk.injEq,List.cons.injEq,U.agg.injEq,and_true]at hv;simp[fL,k,hv.1,hv.2])|aV vs=>(simp[fL]at hv)|_=>simp[fL,k]
theorem ab3(h:fL p 0 l=(l',wr)):imp p (.aV l)=(.aV l',wr):=by simp[imp,h]
theorem C1(h:imp p v=(v',wr):=by first|exact(rfl:imp _ (.val _)=(.val _,[]))|exact(rfl:imp _ (.sl _)=(.sl _,[]))|exact P1|exact ab2|exact ab0|exact akt|exact aku|(apply abZ;exact EF)|(apply ab1;exact EF)|(apply ab3;repeat'(first|exact abX|(apply abW;exact rfl;(first|exact rfl|exact abV|exact aks))|(apply akr;exact rfl)|(apply akq;exact rfl)|(apply akp;exact rfl;exact EF)))|exact rfl):imp p v=(v',wr):=h
theorem ac0{n:Nat}{vs:List U}:aD n [] vs=⟨n,fun _=> .bD,fun _=>none⟩:=rfl
theorem acZ{n s:Nat}{t:Nat->U}{h:Id->Option (Option Rows)}{l:List Nat}{vs:List U}(hi:imp [s] v=(v,[]))(k:aD n l vs=⟨n,t,h⟩):aD n (s::l) (v::vs)=⟨n,ax t s v,h⟩:=by simp[aD,k,hi,bu]
theorem acY{n s:Nat}{t:Nat->U}{h:Id->Option (Option Rows)}{l:List Nat}{vs:List U}(hi:imp [s] v=(v',wr))(k:aD n l vs=⟨n,t,h⟩):aD n (s::l) (v::vs)=⟨n,ax t s v',bu h wr⟩:=by simp[aD,k,hi]
theorem K2{n:Nat}{t:Nat->U}{h:Id->Option (Option Rows)}{l:List Nat}{vs:List U}(k:aD n l vs=⟨n,t,h⟩:=by repeat'(first|exact ac0|(apply acZ;first|exact rfl|exact P1|exact ab2)|(apply acY;exact C1))):aD n l vs=⟨n,t,h⟩:=k
end
section
variable{C:aC}{f:FuncId}{call:gG}{c:Code}{Q:Exit×ah->Prop}{n:Nat}{t:Nat->U}{h:Id->Option (Option Rows)}{l:List Nat}{vs:List U}
theorem mk(k:W C f call c ⟨n,t,h⟩ Q)(hm:aD n l vs=⟨n,t,h⟩:=by exact K2):W C f call c (aD n l vs) Q:=by rw[hm];exact k
theorem fR{e:Exit}(k:Q (e,⟨n,t,h⟩))(hm:aD n l vs=⟨n,t,h⟩:=by exact K2):Q (e,aD n l vs):=by rw[hm];exact k
end
/-! ### Packing -/
def N1{α:Type}(a b:List α):List α:=b.take (min b.length a.length)++a.drop (min b.length a.length)
theorem IL{α:Type}(a b:List α):(N1 a b).length=a.length:=by unfold N1;rw[List.length_append,List.length_take,H1];omega
section
variable{L:Id->Option (Option Rows)}{n:Nat}{α:Type}{c:α->List U}{q:List α}{id:Id}{cs cs':List U}{ids is:List Id}{x v:U}
theorem Cd [hc:yN c](q:List α):eY (q.map c)=true:=Zn c q hc.fl
theorem xQ{m m':Nat}(h:m=m':=by first|exact rfl|exact List.length_map _|(first|(with_reducible assumption)|assumption)|(symm;(first|(with_reducible assumption)|assumption))|(simp only[List.length_map,List.length_set,IL];done)|(simp only[List.length_map,List.length_set,IL];first|(first|(with_reducible assumption)|assumption)|(symm;(first|(with_reducible assumption)|assumption)))|(simp only[List.length_map,List.length_set,IL, *];done)):m=m':=h
theorem ae0{y:U×List Id}:∀{a:U},flat a=true->pk L (n+1) a=some y->y=(a,[]):=by intro a hf h;cases a with|agg cs=>(simp only[flat]at hf;simp[pk,iW,hf]at h;exact h.symm)|aV cs=>(simp only[flat]at hf;simp[pk,iW,hf]at h;exact h.symm)|own rs m=>(simp only[flat]at hf;simp[pk,hf]at h;exact h.symm)|b5 cs=>(simp only[flat]at hf;simp[pk,hf]at h;exact h.symm)|fn k a b=>(simp only[pk]at h;split at h;·{simpa using h.symm};·cases h)|rs _ _ _=>(simp[flat]at hf)|mp _ _ _=>(simp[flat]at hf)|mr _=>(simp[flat]at hf)|dw _ _=>(simp[flat]at hf)|cG=>(simp[flat]at hf)|_=>simp[pk]at h;exact h.symm
theorem OR:∀{cs:List U}{y:List U×List Id},dz cs=true->fj (pk L (n+1)) cs=some y->y=(cs,[])|[],y,_,h=>by{simp[fj]at h;exact h.symm}|c::cs,y,hf,h=>by simp only[dz,A0]at hf;simp only[fj,Ha,Lk]at h;obtain⟨u,hu,v,hv,rfl⟩:=h;obtain rfl:=ae0 hf.1 hu;obtain rfl:=OR hf.2 hv;rfl
theorem Rx{y:List U×List Id}(h:fj (pk L (n+1)) cs=some y):iW (pk L (n+1)) cs=some y:=by unfold iW;split;·{rename_i hf;rw[OR hf h]};·exact h
theorem aeZ{w:Value}(hx:x= .val w:=by exact rfl):pk L (n+1) x=some (.val w,[]):=by rw[hx];rfl
theorem aeY{r:Rows}(hx:x= .sl r:=by exact rfl):pk L (n+1) x=some (.sl r,[]):=by rw[hx];rfl
theorem aeW{r:List U}(hx:x= .aT r:=by exact rfl):pk L (n+1) x=some (.aT r,[]):=by rw[hx];rfl
theorem aeR{t:TypeId}{e:ck}(hx:x=gJ t e:=by first|exact rfl|exact Ht):pk L (n+1) x=some (gJ t e,[]):=by rw[hx];cases e<;>rfl
theorem aeV(hx:x= .cG:=by exact rfl):pk L (n+1) x=some (.own [] 0,[]):=by rw[hx];rfl
theorem aeX{m:Nat}[hc:yN c](hx:x= .rs id 0 m:=by exact rfl)(hh:L id=some (some (q.map c)):=by exact rfl)(hl:m=q.length:=by exact xQ):pk L (n+1) x=some (.own (q.map c) q.length,[id]):=by rw[hx,hl];exact ae1 hh (by simp) (Cd q)
theorem aeQ(hx:x= .agg cs:=by exact rfl)(hf:dz cs=true:=by exact rfl):pk L (n+1) x=some (.agg cs,[]):=by rw[hx];simp[pk,iW,hf]
theorem aeP(hx:x= .agg cs)(h:fj (pk L (n+1)) cs=some (cs',ids)):pk L (n+2) x=some (.agg cs',ids):=by rw[hx,show pk L (n+2) (.agg cs)=(iW (pk L (n+1)) cs).map fun x=>(.agg x.1,x.2)from rfl,Rx h];rfl
theorem aeU(hx:x= .mp id 0 0:=by exact rfl)(hh:L id=some (some [cs]):=by exact rfl)(hf:dz cs=true:=by exact rfl):pk L (n+1) x=some (.b5 cs,[id]):=by rw[hx];simp[pk,iW,hh,hf]
theorem aeT(hx:x= .mp id 0 0)(hh:L id=some (some [cs]))(h:fj (pk L (n+1)) cs=some (cs',ids)):pk L (n+2) x=some (.b5 cs',id::ids):=by have e:pk L (n+2) (.mp id 0 0)=match L id with|some (some [cs])=>if 0=0∧0=0 then(iW (pk L (n+1)) cs).map fun x=>(.b5 x.1,id::x.2)else none|_=>none:=rfl;rw[hx,e,hh];simp only[and_self,if_true,Rx h];rfl
theorem aeS{k:Fn}{a b:List U}(hx:x= .fn k a b:=by exact rfl)(hf:(fK a&&fK b)=true:=by exact rfl):pk L (n+1) x=some (.fn k a b,[]):=by rw[hx];simp only[A0]at hf;simp[pk,hf.1,hf.2]
theorem FM{p:U->Option (U×List Id)}(hx:cs=[]:=by exact rfl):fj p cs=some ([],[]):=by rw[hx];rfl
theorem FL{p:U->Option (U×List Id)}{a b:U}{as bs:List U}{i1 i2:List Id}(hx:cs=a::as)(h:p a=some (b,i1))(k:fj p as=some (bs,i2)):fj p cs=some (b::bs,i1++i2):=by subst hx;simp[fj,h,k]
theorem ae4{t:Nat->U}:jW L t []=some ([],[]):=rfl
theorem ae3{t:Nat->U}{s:Nat}{sl:List Nat}{vs:List U}(h1:pk L 9 (t s)=some (v,ids))(h2:jW L t sl=some (vs,is)):jW L t (s::sl)=some (v::vs,ids++is):=by rw[aeL,h1,AC,h2];rfl
end
/-! ### One row of a list, open -/
section
variable{α:Type}{c c':α->List U}{q:List α}{k:Nat}{x x':α}{r r':List U}
end
/-! ### Packing -/
section
variable{L:Id->Option (Option Rows)}{n m:Nat}{α:Type}{c c':α->List U}{q:List α}{k:Nat}{x x':α}{r r':List U}{id:Id}{ids:List Id}{v:U}
end
section
variable{L:Id->Option (Option Rows)}{n:Nat}{α:Type}{c:α->List U}{q:List α}{id:Id}{cs cs':List U}{ids is:List Id}{x v:U}
theorem pP{a:U}{y:Option (U×List Id)}(h:pk L n a=y:=by repeat'(first|exact aeZ|exact aeR|exact alp|exact alk|exact aeY|exact aeX|exact alr|(apply alv;exact rfl;exact rfl;exact rfl;(first|(with_reducible assumption)|assumption);exact xQ;rotate_left;exact rfl)|(apply alu;exact rfl;exact rfl;exact rfl;(first|(with_reducible assumption)|assumption);exact acP;rotate_left;exact rfl)|exact aeQ|exact aeW|exact aeV|exact alm|exact aeU|exact ali|exact alq|exact aln|exact alx|exact aeS|exact alj|exact alo|exact alh|exact FM|(apply FL;exact rfl)|(apply aeP;exact rfl)|(apply aeT;exact rfl;exact rfl)|(apply alw;exact rfl)|(apply als;exact rfl;exact rfl;exact rfl;exact rfl)|exact alL|(apply alK;exact rfl)|exact alf|(apply alg;exact rfl))):pk L n a=y:=h
theorem LF{t:Nat->U}{sl:List Nat}{y:Option (List U×List Id)}(h:jW L t sl=y:=by repeat'(first|exact ae4|(apply ae3;exact pP))):jW L t sl=y:=h
theorem an{o:Option (Bool×List Nat)}{slots:List Nat}{t:Nat->U}{vs:List U}(hk:o=some (false,slots):=by exact rfl)(hp:jW L t slots=some (vs,is):=by exact LF)(hn:eF is=true:=by exact rfl):fh o ⟨n,t,L⟩=some (aD n slots vs):=by subst hk;show(jn ⟨n,t,L⟩ slots).map _=_;rw[afU,hp];simp[hn]
end
/-! ### The same with names kept -/
section
variable{n:Nat}{t t2:Nat->U}{h:Id->Option (Option Rows)}{slots r:List Nat}{l:List (Id×Id)}{hl y:List (Id×Rows)}{α:Type}{c:α->List U}{q:List α}
def iO(n:Nat)(l:List (Nat×U))(h:List (Id×Rows)):ah:=⟨n,dn (fun _=> .bD) l,kf h⟩
/-! Rows that are flat, cell by cell. -/
theorem OK{r cs:List U}{a:U}(e:r=a::cs)(h1:flat a=true)(h2:dz cs=true):dz r=true:=by subst e;simp[dz,h1,h2]
theorem Zg{rows:Rows}(e:rows=[]:=by exact rfl):eY rows=true:=by subst e;rfl
theorem Zh{rows rs:Rows}{r:List U}(e:rows=r::rs)(h1:dz r=true)(h2:eY rs=true):eY rows=true:=by subst e;simp[eY,h1,h2]
theorem I7{rows:Rows}(k:eY rows=true:=by(repeat'(first|exact Cd _|exact Zg|(apply Zh;exact rfl)|exact Zb|(apply OK;exact rfl)|exact rfl|exact Y9|exact Zf|exact Zd));first|done|fail):eY rows=true:=k
theorem ac2:pI l t []=dn (fun _=> .bD) []:=rfl
theorem ac1{s:Nat}{v':U}{vs:List (Nat×U)}(he:fN l (t s)=v')(hr:pI l t r=dn (fun _=> .bD) vs):pI l t (s::r)=dn (fun _=> .bD) ((s,v')::vs):=by subst he;simp[pI,hr,dn]
theorem L0 [hc:yN c]:mG l (q.map c)=some (q.map c):=by simp[mG,Cd]
theorem L2{cs cs':List U}(hf:dz cs=false:=by exact rfl)(h:pW l cs=some cs':=by first|exact rfl|exact alO):mG l [cs]=some [cs']:=by simp[mG,eY,hf,AU,h]
theorem L1{rows:Rows}(hf:eY rows=true:=by first|exact rfl|exact I7):mG l rows=some rows:=by simp[mG,hf]
end
section
variable{l:List (Id×Id)}{α:Type}{c:α->List U}{q:List α}{k:Nat}{x x':α}{r r':List U}
theorem afR{a:U}(h:flat a=true):vu l a=some a:=by cases a with|fn k as cs=>(simp only[vu];rw[if_pos (by simpa[flat]using h)])|rs _ _ _=>(simp[flat]at h)|mp _ _ _=>(simp[flat]at h)|mr _=>(simp[flat]at h)|cG=>(simp[flat]at h)|_=>simp only[vu,AQ];rw[if_pos h]
theorem DW:∀{as:List U},dz as=true->pW l as=some as|[],_=>rfl|a::as,h=>by simp only[dz,A0]at h;simp[pW,afR h.1,DW h.2]
end
section
variable{n:Nat}{t t2:Nat->U}{h:Id->Option (Option Rows)}{slots r:List Nat}{l:List (Id×Id)}{hl y:List (Id×Rows)}{α:Type}{c:α->List U}{q:List α}
theorem abd{L:Id->Option (Option Rows)}:pg L l []=some []:=rfl
theorem abc{L:Id->Option (Option Rows)}{r:List (Id×Id)}{o k:Id}{rows bB:Rows}(h:L o=some (some rows))(hr:mG l rows=some bB)(hy:pg L l r=some y):pg L l ((o,k)::r)=some ((k,bB)::y):=by simp[pg,h,hr,hy]
theorem hnk{L:Id->Option (Option Rows)}{r:List (Id×Id)}(h:pg L l r=some y:=by repeat'(first|exact abd|(apply abc;exact rfl;first|exact L0|exact alV rfl|exact alX (by(first|(with_reducible assumption)|assumption))|exact L2|exact L1))):pg L l r=some y:=h
theorem ac3{vs:List (Nat×U)}(h:pI l t slots=dn (fun _=> .bD) vs:=by repeat'(first|exact ac2|(apply ac1;first|exact rfl|exact alW))):pI l t slots=dn (fun _=> .bD) vs:=h
def ab9:U->Bool| .cG=>true|_=>false
theorem QZ{y:ah}(e:(⟨n,t,h⟩:ah)=y:=by exact rfl):lz [] ⟨n,t,h⟩=y:=e
theorem adx{s:Nat}{sl:List Nat}{y:ah}(hs:ab9 (t s)=false)(k:lz sl ⟨n,t,h⟩=y):lz (s::sl) ⟨n,t,h⟩=y:=by have e:tA ⟨n,t,h⟩ s=⟨n,t,h⟩:=by{simp only[tA];split;·{rename_i h1 _;rw[h1]at hs;cases hs};·rfl};rw[lz,e];exact k
theorem ady{y:ah}(k:lz slots ⟨n,t,h⟩=y:=by repeat'(first|with_reducible exact QZ|(apply adx;first|exact rfl|exact akE|exact akF)|(apply akW;exact rfl;exact rfl)|exact QZ)):lz slots ⟨n,t,h⟩=y:=k
section
variable{keep:Id->Bool}{o:Id}{ol:List Id}{y0:Option ah}{rows bB:Rows}{ids:List Id}{r r':List U}{k:Nat}
theorem XP{α:Type}{g:α->Id}{y0:Option ah}(e:some (⟨n,t,h⟩:ah)=y0:=by exact rfl):ju keep (List.map g []) ⟨n,t,h⟩=y0:=e
theorem ac6(e:(eF ids&& !ids.contains o)=true):(eF ids&& !ids.contains o)=true:=e
theorem XN(hh:h o=some (some rows))(hf:eY rows=true)(k:ju keep ol ⟨n,t,h⟩=y0):ju keep (o::ol) ⟨n,t,h⟩=y0:=by have e:qh keep ⟨n,t,h⟩ o=some ⟨n,t,h⟩:=by{simp only[qh,hh,hf,if_true]};rw[ju,e];exact k
theorem XT(hh:h o=some (some rows))(hf:eY rows=false)(hc:fk (kZ h keep) rows=some (bB,ids))(hn:(eF ids&& !ids.contains o)=true)(k:ju keep ol ⟨n,t,bu h ((o,some bB)::ids.map fun i=>(i,none))⟩=y0):ju keep (o::ol) ⟨n,t,h⟩=y0:=by have e:qh keep ⟨n,t,h⟩ o=some ⟨n,t,bu h ((o,some bB)::ids.map fun i=>(i,none))⟩:=by{simp only[qh,hh,hf,hc,hn,if_true];rfl};rw[ju,e];exact k
theorem N4(hf:dz r=false:=by exact rfl)(hc:fj (je h keep) r=some (r',ids)):kZ h keep r=some (r',ids):=by simp[kZ,hf,hc]
theorem OP{p:List U->Option (List U×List Id)}(e:rows=[]:=by exact rfl):fk p rows=some ([],[]):=by subst e;rfl
theorem OQ{p:List U->Option (List U×List Id)}{rs:Rows}{i1 i2:List Id}(e:rows=r::rs)(h1:p r=some (r',i1))(h2:fk p rs=some (bB,i2)):fk p rows=some (r'::bB,i1++i2):=by subst e;simp[fk,h1,h2]
theorem NN{i:Id}{off len:Nat}{x:U}(hx:x= .rs i off len:=by exact rfl)(hk:keep i=true:=by exact rfl):je h keep x=some (.rs i off len,[]):=by subst hx;simp[je,hk]
theorem NP{i:Id}{off len:Nat}{x x':U}(hx:x= .rs i off len:=by exact rfl)(hk:keep i=false:=by exact rfl)(hp:pk h 8 (.rs i off len)=some (x',ids)):je h keep x=some (x',ids):=by subst hx;simp[je,hk,hp]
theorem NO{x:U}(hx:x= .cG:=by exact rfl):je h keep x=some (.own [] 0,[]):=by subst hx;rfl
theorem KM:∀{l:List U},dz l=true->zZ keep l=true|[],_=>rfl|a::l,hf=>by simp only[dz,A0]at hf;simp only[zZ,Ix,A0];refine⟨?_,KM hf.2⟩;cases a<;>first|exact hf.1|(simp[flat]at hf)
theorem NM{x:U}(hf:flat x=true):je h keep x=some (x,[]):=by cases x with|fn k as cs=>(simp only[flat,A0]at hf;simp only[je];rw[if_pos (by simp[KM hf.1,KM hf.2])])|rs _ _ _=>(simp[flat]at hf)|mp _ _ _=>(simp[flat]at hf)|mr _=>(simp[flat]at hf)|cG=>(simp[flat]at hf)|_=>simp only[je];rw[if_pos hf]
end
section
variable{α:Type}{c:α->List U}{q:List α}{k:Nat}{x x':α}{r r':List U}{ids:List Id}{keep:Id->Bool}{o:Id}{ol:List Id}{y0:Option ah}
end
theorem XV{keep:Id->Bool}{ol:List Id}{y0:Option ah}(k:ju keep ol ⟨n,t,h⟩=y0:=by repeat'(first|with_reducible exact ai3|with_reducible exact XP|(apply XN;exact rfl;first|exact Cd _|exact rfl|exact I7)|(apply ai4;exact rfl;exact rfl;(first|(with_reducible assumption)|assumption);exact inferInstance)|(apply XT;exact rfl;exact rfl)|exact OP|(apply OQ;exact rfl)|exact Yf|(apply N4;exact rfl)|exact NN|exact Xs|exact Xt|exact NO|(apply Xv;exact rfl;exact rfl;exact pP)|(apply NP;exact rfl;exact rfl;exact pP)|(apply Xu;exact rfl;exact rfl;exact pP)|(apply NM;first|exact rfl|exact Y8|exact Ze|exact Zc)|exact Xr|exact FM|(apply FL;exact rfl)|exact ac6 rfl)):ju keep ol ⟨n,t,h⟩=y0:=k
/-! Names, one by one. -/
def Qr:U->Bool| .fn _ as cs=> !(dz as&&dz cs)| .rs _ _ _=>true| .mp _ _ _=>true| .mr _=>true| .agg _=>true|_=>false
section
variable{L:Id->Option (Option Rows)}{m j:Nat}{p i:Id}{acc acc' qd y l:List (Id×Id)}{a:U}{as cs eK:List U}{S:ah}{s:Nat}{slots:List Nat}
theorem Yj(hx:eK=[])(e:acc=y):gI L m p j acc eK=y:=by subst hx;cases m<;>exact e
theorem Yn(hx:eK=a::as)(hs:Qr a=false)(k:gI L m p (j+1) acc as=y):gI L (m+1) p j acc eK=y:=by subst hx;cases a with|fn f xs cs=>(simp only[Qr,Bool.not_eq_false']at hs;simp only[gI,if_pos hs];exact k)|_=>first|exact k|cases hs
theorem K9{i q:Id}(h:jT i=false)(h2:jT q=false):rS i q=q:=by simp[rS,h,h2]
theorem La{i q:Id}(h:jT i=true):rS i q=i:=by simp[rS,h]
variable{nm:Id}
theorem Yl{o n:Nat}(hx:eK= .rs i o n::as)(hn:(gC acc i).isSome=false)(hm:rS i (j::p)=nm)(hl:acc++[(i,nm)]=acc')(k:gI L m p (j+1) acc' as=y):gI L (m+1) p j acc eK=y:=by subst hx hl hm;simp only[gI,hn];exact k
theorem Ym{o n:Nat}(hx:eK= .rs i o n::as)(hn:(gC acc i).isSome=true)(k:gI L m p (j+1) acc as=y):gI L (m+1) p j acc eK=y:=by subst hx;simp only[gI,hn];exact k
theorem Yk{o n:Nat}(hx:eK= .mp i o n::as)(hn:(gC acc i).isSome=false)(hh:L i=some (some [cs]))(hm:rS i (j::p)=nm)(hl:acc++[(i,nm)]=acc')(h1:gI L m (j::p) 0 acc' cs=qd)(k:gI L m p (j+1) qd as=y):gI L (m+1) p j acc eK=y:=by subst hx hl h1 hm;simp only[gI,hn,hh];exact k
theorem Yi(hx:eK= .agg cs::as)(h1:gI L m (j::p) 0 acc cs=qd)(k:gI L m p (j+1) qd as=y):gI L (m+1) p j acc eK=y:=by subst hx h1;simp only[gI];exact k
theorem adl(e:acc=l):Hm (fun acc s=>gI S.h 40 [s] 0 acc [S.t s]) acc []=l:=e
theorem adk(h:gI S.h 40 [s] 0 acc [S.t s]=acc')(k:Hm (fun acc s=>gI S.h 40 [s] 0 acc [S.t s]) acc' slots=l):Hm (fun acc s=>gI S.h 40 [s] 0 acc [S.t s]) acc (s::slots)=l:=by subst h;exact k
theorem adj{SC:List Nat}(hs:slots=SC)(h:Hm (fun acc s=>gI S.h 40 [s] 0 acc [S.t s]) [] SC=l):names S slots=l:=by subst hs;exact h
theorem adm(h:names S slots=l:=by((with_reducible apply adj);exact spine);repeat'(first|((with_reducible apply adl);exact rfl)|(with_reducible apply adk)|((with_reducible apply Yj);(with_reducible exact rfl);exact rfl)|((with_reducible apply Yn);exact rfl;first|exact rfl|exact akP|exact akS)|((with_reducible apply Yl);exact rfl;exact rfl;(first|exact K9 rfl rfl|exact La rfl|exact QV rfl rfl spine);exact spine)|((with_reducible apply Ym);exact rfl;exact rfl)|((with_reducible apply ajb);exact rfl;exact rfl;(first|exact K9 rfl rfl|exact La rfl|exact QV rfl rfl spine);exact spine)|((with_reducible apply ajc);exact rfl;exact rfl)|((with_reducible apply aja);exact rfl;exact rfl)|((with_reducible apply Yk);exact rfl;exact rfl;exact rfl;(first|exact K9 rfl rfl|exact La rfl|exact QV rfl rfl spine);exact spine)|((with_reducible apply Yi);exact rfl)|((with_reducible apply ai9);exact rfl;exact rfl))):names S slots=l:=h
end
theorem adw{t0 t1:Nat->U}{h0 h1:Id->Option (Option Rows)}{vs:List (Nat×U)}(e0:lz slots ⟨n,t,h⟩=⟨n,t0,h0⟩:=by exact ady)(hn:names ⟨n,t0,h0⟩ slots=l:=by first|exact adm|exact spine)(e1:ju (tu l) (l.map (·.1)) ⟨n,t0,h0⟩=some ⟨n,t1,h1⟩:=by exact XV)(hd:(eF (l.map (·.1))&&eF (l.map (·.2))&&l.all (fun x=> !jT x.2||x.1==x.2))=true:=by exact rfl)(hh:pg h1 l l=some hl:=by exact hnk)(ht:pI l t1 slots=dn (fun _=> .bD) vs:=by exact ac3):norm ⟨n,t,h⟩ slots=some (iO n vs hl):=by subst hn;simp only[norm,GD,e0,e1,AC,u7,hd,if_true,hh,GE,ht,iO]
theorem fP{o:Option (Bool×List Nat)}{vs:List (Nat×U)}(hk:o=some (true,slots):=by exact rfl)(hm:norm ⟨n,t,h⟩ slots=some (iO n vs hl):=by exact adw):fh o ⟨n,t,h⟩=some (iO n vs hl):=by subst hk;exact hm
end
section
variable{C:aC}{f:FuncId}{call:gG}{c:Code}{Q:Exit×ah->Prop}{n:Nat}{l:List (Nat×U)}{h:List (Id×Rows)}
theorem p4(k:W C f call c ⟨n,dn (fun _=> .bD) l,kf h⟩ Q):W C f call c (iO n l h) Q:=k
theorem Au{e:Exit}(k:Q (e,⟨n,dn (fun _=> .bD) l,kf h⟩)):Q (e,iO n l h):=k
end
section
variable{α:Type}{c c':α->List U}{q:List α}{as bs:List U}{L:Id->Option (Option Rows)}{n:Nat}
/-! Freezing -/
theorem ZV [hc:Mz c c']:dN (.own (q.map c) q.length)= .sl (q.map c'):=by have:jO (q.map c)=q.map c':=by{induction q with|nil=>(rfl)|cons x q ih=>simp[jO,hc.dN,ih]};simp only[dN,this];rw[H2 (by simp)]
theorem ZR{a b:U}(h:dN a=b)(k:jw as=bs):jw (a::as)=b::bs:=by simp[jw,h,k]
theorem ZQ(h:jw as=bs):dN (.agg as)= .agg bs:=by simp[dN,h]
theorem ZX(h:jw as=bs):dN (.aV as)= .aV bs:=by simp[dN,h]
theorem ZW(h:jw as=bs):dN (.b5 as)= .aT bs:=by simp[dN,h]
theorem FQ{a b:U}(h:dN a=b:=by repeat'(first|exact(rfl:dN (.val _)= .val _)|exact ZS|exact ajU|exact ZV|exact ajT|exact(rfl:dN (.sl _)= .sl _)|apply ZQ|apply ZX|apply ZW|exact(rfl:jw []=[])|apply ZR|exact rfl)):dN a=b:=h
end
/-! ### Memory of one's own -/
def app{α:Type}(a b:List α):Option (List α):=if a.length+b.length<=4294967296 then some (a++b)else none
theorem Wp{α:Type}{a b r:List α}(h:app a b=some r):a.length+b.length<=4294967296∧r=a++b:=by unfold app at h;split at h;·{exact⟨‹_›,by simpa using h.symm⟩};·cases h
def uY{α:Type}(n:Int)(z:α):Option (List α):=if 0<=n∧n<=4294967296 then some (Hn n.toNat z)else none
theorem agb{α:Type}{c:α->List U}{q:List α}[hc:ER c]:tS (q.map c)=true:=by simp only[tS,List.all_map,Hc];exact fun x _=>hc.ce x
section
variable{C:aC}{f:FuncId}{call:gG}{S:ah}{g:Bool}
variable{d:Nat}{ty:TypeId}{pos:String}{bl:Array Edge}{bO:Option (Nat×Bool)}{v v':U}
variable{x y z:Operand}{k:IntKind}{a b:Int}{T dO:TypeId}
theorem fE{cs:List U}[hz:um C T cs](hn:S.h [d]=none:=by exact rfl)(mj:C.yK f d=[]:=by exact rfl):bS C f call S g ⟨some d, .alloc T,ty,pos,bl,bO⟩=some ⟨[(d, .mp [d] 0 0)],[],[([d],some [cs])]⟩:=by show sI C f S _ T=_;simp[sI,hz.Ts,hn,mj,yL]
theorem GH{bb:Bool}{m:Nat}{cs:List U}[ha:ew C T bb m](hin:(C.gx f).contains d=false:=by exact rfl)(hx:un g (S.get C x)=v:=by exact gt)(hc:oZ bb v=some cs:=by exact rfl)(hn:S.h [d]=none:=by exact rfl):bS C f call S g ⟨some d, .box T x,ty,pos,bl,bO⟩=some ⟨[(d, .mp [d] 0 0)],[],[([d],some [cs])]⟩:=by show qj C f S _ T (un g (S.get C x))=_;simp only[qj,ha.mQ,hx,hc,fM,hin,Bool.false_and,Do,if_false];rw[if_pos (ab8 hn)];rfl
theorem ia{i off off' row m:Nat}{bb:Bool}{id:Id}[hf:Fd C T i off m bb](hx:un g (S.get C x)= .mp id row off':=by first|exact rfl|exact cz)(h0:A1 0 m=true:=by exact rfl):bS C f call S g ⟨some d, .fieldAddr T x i,ty,pos,bl,bO⟩=some ⟨[(d, .mp id row (off'+off))],[],[]⟩:=by show uA C f _ T i (un g (S.get C x))=_;have h0':0<m:=of_decide_eq_true (sB h0);simp[uA,hf.fd,hx,h0']
theorem KQ{bb:Bool}{m row off:Nat}{id:Id}{rows:Rows}{r cs:List U}(ha:kI C T=some bb)(hs:iC C T=some m)(hx:un g (S.get C x)= .mp id row off)(hh:S.h id=some (some rows))(hr:rows[row]? =some r)(hl:GT (off+m) r.length=true)(hc:bR [d] 0 ((r.drop off).take m)=(cs,[]))(hv:kg bb cs=some v):bS C f call S g ⟨some d, .load T x,ty,pos,bl,bO⟩=some ⟨[(d,v)],[id],[]⟩:=by show mT C S _ T (un g (S.get C x))=_;rw[hx];have hl':off+m<=r.length:=Hb hl;simp only[mT,ha,hs,hh,hr,AC,if_pos hl',jf,hc,hv,List.isEmpty_nil,if_true,GE];rfl
theorem Ag{m row off:Nat}{id:Id}{α:Type}{c:α->List U}{q:List α}{r:α}{cs:List U}(hr:q[row]? =some r)[ha:ew C T false m](hx:un g (S.get C x)= .mp id row off:=by first|exact rfl|exact cz)(hh:S.h id=some (some (q.map c)):=by exact rfl)(hm:m=1:=by exact rfl)(hv:(c r).drop off=v::cs:=by exact rfl)(hu:bR [d] 0 [v]=([v],[]):=by first|exact rfl|exact S8):bS C f call S g ⟨some d, .load T x,ty,pos,bl,bO⟩=some ⟨[(d,v)],[id],[]⟩:=by subst hm;refine KQ (rows:=q.map c) (r:=c r) (cs:=[v]) ha.mQ ha.sz hx hh (by simp[hr]) ?_ (by rw[hv];exact hu) rfl;have:=congrArg List.length hv;simp only[H1,PH]at this;apply PP;omega
theorem nk{m off:Nat}{id:Id}{r cs:List U}[ha:ew C T false m](hx:un g (S.get C x)= .mp id 0 off:=by first|exact rfl|exact cz)(hh:S.h id=some (some [r]):=by exact rfl)(hm:m=1:=by exact rfl)(hv:r.drop off=v::cs:=by exact rfl)(hu:bR [d] 0 [v]=([v],[]):=by first|exact rfl|exact S8):bS C f call S g ⟨some d, .load T x,ty,pos,bl,bO⟩=some ⟨[(d,v)],[id],[]⟩:=by subst hm;refine KQ (rows:=[r]) (r:=r) (cs:=[v]) ha.mQ ha.sz hx hh rfl ?_ (by rw[hv];exact hu) rfl;have:=congrArg List.length hv;simp only[H1,PH]at this;apply PP;omega
theorem Ll{m off:Nat}{id:Id}{r cs cs0:List U}[ha:ew C T true m](hx:un g (S.get C x)= .mp id 0 off:=by first|exact rfl|exact cz)(hh:S.h id=some (some [r]):=by exact rfl)(hl:GT (off+m) r.length=true:=by exact rfl)(hv:(r.drop off).take m=cs0:=by exact spine)(hu:bR [d] 0 cs0=(cs,[]):=by exact EF):bS C f call S g ⟨some d, .load T x,ty,pos,bl,bO⟩=some ⟨[(d, .agg cs)],[id],[]⟩:=KQ (rows:=[r]) (r:=r) ha.mQ ha.sz hx hh rfl hl (by rw[hv];exact hu) rfl
def Hq(L:List Nat):Operand->Bool| .tmp ta=>L.contains ta|_=>false
theorem OZ{a:Operand}(hin:Hq (C.gx f) a=false):wF C f a=none:=by cases a with|tmp ta=>(simp only[Hq]at hin;unfold wF;simp only;rw[if_neg (by rw[hin];simp)])|_=>rfl
theorem jm{bb:Bool}{m ta:Nat}{id:Id}{cs cs' r:List U}[ha:ew C T bb m](hin:(C.gx f).contains ta=true:=by exact rfl)(hx:un true (S.get C (.tmp ta))= .mp id 0 0:=by exact rfl)(hy:un true (S.get C y)=v:=by exact gt)(hc:oZ bb v=some cs:=by exact rfl)(bV:cs.length=m:=by exact rfl)(hh:S.h id=some (some [r]):=by exact rfl)(hr:r.length=m:=by exact rfl)(hz:kP cs=cs':=by exact spine)(hi:fK cs'=true:=by exact rfl):bS C f call S true ⟨none, .store T (.tmp ta) y,ty,pos,bl,bO⟩=some ⟨[(ta, .aT cs')],[id],[(id,none)]⟩:=by show n7 C f S true _ T (.tmp ta) (un true (S.get C (.tmp ta))) (un true (S.get C y))=_;rw[hx,hy];have e:wF C f (.tmp ta)=some ta:=by{unfold wF;simp only;rw[if_pos hin]};subst hz;simp[n7,ha.mQ,ha.sz,hc,bV,hh,hr,e,hi]
theorem cU{bb:Bool}{m off:Nat}{ao:Operand}{id:Id}{cs r r':List U}[ha:ew C T bb m](hin:Hq (C.gx f) ao=false:=by exact rfl)(hx:un g (S.get C ao)= .mp id 0 off:=by exact rfl)(hy:un g (S.get C y)=v:=by exact gt)(hc:oZ bb v=some cs:=by exact rfl)(bV:cs.length=m:=by exact rfl)(hh:S.h id=some (some [r]):=by exact rfl)(hl:GT (off+m) r.length=true:=by exact rfl)(hq:r.take off++cs++r.drop (off+m)=r':=by exact spine):bS C f call S g ⟨none, .store T ao y,ty,pos,bl,bO⟩=some ⟨[],[id],[(id,some [r'])]⟩:=by show n7 C f S g _ T ao (un g (S.get C ao)) (un g (S.get C y))=_;rw[hx,hy];have hl':off+m<=r.length:=Hb hl;have e:=OZ (f:=f) hin;subst hq;simp only[n7,ha.mQ,ha.sz,hc];rw[if_neg (by simp[bV]),hh];simp only[PQ,AC,if_pos hl',e];rfl
theorem Lp{bb:Bool}{m row off:Nat}{ao:Operand}{id:Id}{cs:List U}{α:Type}{c:α->List U}{q:List α}{r:α}(hr:q[row]? =some r)(r':α)[ha:ew C T bb m](hin:Hq (C.gx f) ao=false:=by exact rfl)(hx:un g (S.get C ao)= .mp id row off:=by exact rfl)(hy:un g (S.get C y)=v:=by exact gt)(hc:oZ bb v=some cs:=by first|exact rfl|exact ai5)(bV:cs.length=m:=by exact rfl)(hh:S.h id=some (some (q.map c)):=by exact rfl)(hl:GT (off+m) (c r).length=true:=by exact rfl)(hq:(c r).take off++cs++(c r).drop (off+m)=c r':=by exact rfl):bS C f call S g ⟨none, .store T ao y,ty,pos,bl,bO⟩=some ⟨[],[id],[(id,some ((q.set row r').map c))]⟩:=by show n7 C f S g _ T ao (un g (S.get C ao)) (un g (S.get C y))=_;rw[hx,hy];have hl':off+m<=(c r).length:=Hb hl;have e:=OZ (f:=f) hin;have e2:(q.map c)[row]? =some (c r):=by{simp[hr]};simp only[n7,ha.mQ,ha.sz,hc];rw[if_neg (by simp[bV]),hh];simp only[e2,AC,if_pos hl',e];rw[hq,List.map_set];rfl
theorem tB{e:TypeId}{m n:Nat}{bb:Bool}{α:Type}{c:α->List U}{q:List α}{i:Int}{r:α}{id:Id}(hi:idx q i=some r)[hu:eJ C T (.slice e)][hs:ew C e bb m](hx:un g (S.get C x)= .rs id 0 n:=by first|exact rfl|exact cz)(hh:S.h id=some (some (q.map c)):=by exact rfl)(hl:n=q.length:=by exact xQ)(hy:un g (S.get C y)= .val (.int k i):=by first|exact rfl|exact cz)(hr:(c r).length=m:=by exact rfl):bS C f call S g ⟨some d, .indexAddr T x y,ty,pos,bl,bO⟩=some ⟨[(d, .mp id i.toNat 0)],[id],[]⟩:=by show qk C S _ T (un g (S.get C x)) (eP (un g (S.get C y)))=_;have hb:=PX hi;have hn:=qD hi;subst hl;simp only[hx,hy,eP,qk,hu.ul,hs.sz];rw[if_pos hb,hh];simp[hn,hr]
section
variable{α:Type}{c:α->List U}{q q' r:List α}{id pE:Id}{e:TypeId}{m n n':Nat}{T dO:TypeId}
abbrev Fh:= @n4
theorem Wo{rx:U}{xs ys:Rows}{i1 i2:List Id}(hok:BL C e m=true)(hu:C.P.underlying T=some (.slice e))(hu1:C.P.underlying dO=some (.slice e))(hx:un g (S.get C x)=rx)(uO:rowsOf S.h rx=some (xs,i1))(hy:rowsOf S.h (un g (S.get C y))=some (ys,i2))(hl:ys.all (·.length==m)=true)(hcell:tS ys=true)(hlen:xs.length+ys.length<=uW)(hn:S.h [d]=none){zj:aP}(he:Fh S ⟨some d, .call ⟨.builtin .append,⟨[x,y]⟩,⟨[T,dO]⟩⟩,ty,pos,bl,bO⟩ d m rx xs ys i1 i2=some zj):nD C S ⟨some d, .call ⟨.builtin .append,⟨[x,y]⟩,⟨[T,dO]⟩⟩,ty,pos,bl,bO⟩ ⟨[T,dO]⟩ ([x,y].map fun x=>un g (S.get C x))=some zj:=by unfold BL at hok;split at hok;·{rename_i inf J1;simp only[A0,beq_iff_eq,decide_eq_true_eq]at hok;obtain⟨⟨⟨k1,k2⟩,dJ⟩,j7⟩:=hok;subst k1;have e1:(#[T,dO]:Array TypeId)[0]? =some T:=rfl;have e2:(#[T,dO]:Array TypeId)[1]? =some dO:=rfl;simp only[Hd,Hk,nD,e1,e2,AC,hu1,y7,hu,J1,hx,uO,hy];rw[if_pos (by simp only[A0,decide_eq_true_eq];exact⟨⟨⟨⟨⟨⟨hl,k2⟩,dJ⟩,j7⟩,hlen⟩,hcell⟩,by rw[hn];rfl⟩)];unfold Fh at he;exact he};·cases hok
theorem Wn{rx:U}{xs ys:Rows}{i1 i2:List Id}(hok:BL C e m=true)(hu:C.P.underlying T=some (.slice e))(hu1:C.P.underlying dO=some (.slice e))(hx:un g (S.get C x)=rx)(uO:rowsOf S.h rx=some (xs,i1))(hy:rowsOf S.h (un g (S.get C y))=some (ys,i2))(hl:ys.all (·.length==m)=true)(hcell:tS ys=true)(hlen:xs.length+ys.length<=uW)(hn:S.h [d]=none)(hfz:(C.gx f).contains d=false){zj:aP}(he:Fh S ⟨some d, .call ⟨.builtin .append,⟨[x,y]⟩,⟨[T,dO]⟩⟩,ty,pos,bl,bO⟩ d m rx xs ys i1 i2=some zj):bS C f call S g ⟨some d, .call ⟨.builtin .append,⟨[x,y]⟩,⟨[T,dO]⟩⟩,ty,pos,bl,bO⟩=some zj:=by show(nD C S _ _ ([x,y].map fun x=>un g (S.get C x))).bind (sP C f _)=_;have key:nD C S ⟨some d, .call ⟨.builtin .append,⟨[x,y]⟩,⟨[T,dO]⟩⟩,ty,pos,bl,bO⟩ ⟨[T,dO]⟩ ([x,y].map fun x=>un g (S.get C x))=some zj:=Wo hok hu hu1 hx uO hy hl hcell hlen hn he;rw[key];simp only[AC,sP,fM,hfz,Do,if_false]
theorem age{L:Id->Option (Option Rows)}(hh:L id=some (some (q.map c))):rowsOf L (.rs id 0 q.length)=some (q.map c,[id]):=by show(match L id with|some (some rs)=>if 0+q.length<=rs.length then some ((rs.drop 0).take q.length,[id])else none|_=>none)=_;rw[hh];simp only;rw[if_pos (by simp),H3,H2 (by simp)]
theorem Dl(hr:app q q'=some r)[hu:eJ C T (.slice e)][hu1:eJ C dO (.slice e)][hok:Bp C e m](hx:un g (S.get C x)= .rs id 0 n:=by exact rfl)(hh:S.h id=some (some (q.map c)):=by exact rfl)(hlen:n=q.length:=by exact xQ)(hy:un g (S.get C y)= .sl (q'.map c):=by exact rfl)(hl:∀x,(c x).length=m:=by exact fun _=>rfl)(hcell:tS (q'.map c)=true:=by first|exact agb|exact rfl)(hn:S.h [d]=none:=by exact rfl)(hfz:(C.gx f).contains d=false:=by exact rfl):bS C f call S g ⟨some d, .call ⟨.builtin .append,⟨[x,y]⟩,⟨[T,dO]⟩⟩,ty,pos,bl,bO⟩=some ⟨[(d, .rs [d] 0 r.length)],[id],[(id,none),([d],some (r.map c))]⟩:=by obtain⟨h1,rfl⟩:=Wp hr;subst hlen;refine Wn hok.ao hu.ul hu1.ul hx (age hh) (by rw[hy];rfl) (Ih hl) hcell (by simpa[uW]using h1) hn hfz ?_;simp only[Fh,n4,hh];rw[if_pos (by simp only[A0];refine⟨⟨Ih hl,by simp⟩, ?_⟩;cases q<;>simp)];simp[put,List.map_append]
end
theorem Q1{e:TypeId}{m:Nat}{α:Type}{c:α->List U}{c9:α}{ku:List U}{nn:Int}{r:List α}(hr:uY nn c9=some r)(Kx:c c9=ku)[hu:eJ C T (.slice e)][hok:Bp C e m][hz:um C e ku](hx:un g (S.get C x)= .val (.int k nn):=by exact rfl)(hy:un g (S.get C y)= .val (.int k nn):=by exact rfl)(hzl:ku.length=m:=by exact rfl)(hn:S.h [d]=none:=by exact rfl):bS C f call S g ⟨some d, .makeSlice T x y,ty,pos,bl,bO⟩=some ⟨[(d, .rs [d] 0 r.length)],[],[([d],some (r.map c))]⟩:=by show sN C S _ T (un g (S.get C x)) (un g (S.get C y))=_;unfold uY at hr;split at hr;·{rename_i hp;obtain rfl:Hn nn.toNat c9=r:=by{simpa using hr};have hok:=hok.ao;unfold BL at hok;split at hok;·{rename_i inf J1;simp only[A0,beq_iff_eq,decide_eq_true_eq]at hok;obtain⟨⟨⟨k1,k2⟩,dJ⟩,j7⟩:=hok;simp only[hx,hy,sN,hu.ul,eP,hz.Ts,J1];rw[if_pos (by simp only[A0,decide_eq_true_eq];exact⟨⟨⟨⟨by omega,by omega⟩,dJ⟩,by omega⟩,by rw[hn];rfl⟩)];simp[put,Kx]};·cases hok};·cases hr
theorem W7{e:TypeId}{bb:Bool}{m len:Nat}{ku:List U}{ps:List (Nat×U)}{rows:Rows}(hu:C.P.underlying T=some (.slice e))(hz:yI C e=some ku)(ha:kI C e=some bb)(hs:iC C e=some m)(h0:(decide (0<m)&&decide (m=ku.length)&&decide (len*m<=1000))=true)(hf:uG m bb (Hn len ku) ps=some rows):zf C T len ps=some rows:=by simp only[zf,hu,hz,ha,hs,h0,if_true,hf]
theorem cu{e:TypeId}{bb:Bool}{m len:Nat}{ku:List U}{p:List (Nat×Operand)}{ps:List (Nat×U)}{rows bB:Rows}[hu:eJ C T (.slice e)][hz:qc C e ku][ha:ew C e bb m](hin:(C.gx f).contains d=true:=by exact rfl)(h0:(decide (0<m)&&decide (m=ku.length)&&decide (len*m<=1000))=true:=by exact rfl)(hq:(p.map fun p=>(p.1,un g (S.get C p.2)))=ps:=by exact RF)(hf:uG m bb (Hn len ku) ps=some rows:=by exact rfl)(Gh:rows.map kP=bB:=by exact spine)(hi:lg bB=true:=by exact rfl):bS C f call S g ⟨some d, .buildSlice T len ⟨p⟩,ty,pos,bl,bO⟩=some ⟨[(d, .sl bB)],[],[]⟩:=by show sK C f S _ T len (p.map fun p=>(p.1,un g (S.get C p.2)))=_;rw[hq];have hb:=W7 hu.ul hz.ku ha.mQ ha.sz h0 hf;unfold sK;rw[if_neg (by simp[NG,hb,Gh,hi])];simp only[uz,hu.ul,hz.ku,ha.mQ,ha.sz,h0,if_true,hf,fM,hin,Gh,hi,Nm];rfl
/-! ### Calls -/
section
variable{L:Id->Option (Option Rows)}{n m:Nat}{α:Type}{c c':α->List U}{q:List α}{id:Id}{as bs cs cs':List U}{is i2:List Id}{x u:U}
theorem NJ{a:U}(h:fQ a=true):cI L (n+1) a=some (a,[]):=by cases a with|agg cs=>(simp only[fQ]at h;simp[cI,kA,h])|aV cs=>(simp only[fQ]at h;simp[cI,kA,h])|fn k a b=>(simp only[fQ,A0]at h;simp[cI,kA,h])|_=>first|rfl|simp[fQ]at h
theorem Xd{w:Value}(hx:x= .val w:=by exact rfl):cI L (n+1) x=some (.val w,[]):=by rw[hx];rfl
theorem Xc{r:Rows}(hx:x= .sl r:=by exact rfl):cI L (n+1) x=some (.sl r,[]):=by rw[hx];rfl
theorem W9{t:TypeId}{e:ck}(hx:x=gJ t e:=by first|exact rfl|exact Ht):cI L (n+1) x=some (gJ t e,[]):=by rw[hx];exact NJ (YT e)
theorem Xa(hx:x=u:=by exact gt)(hi:fQ u=true:=by exact rfl):cI L (n+1) x=some (u,[]):=by rw[hx];exact NJ hi
theorem Xb [hc:ER c](hx:x= .rs id 0 m:=by exact rfl)(hh:L id=some (some (q.map c)):=by exact rfl)(hl:m=q.length:=by exact xQ):cI L (n+1) x=some (.sl (q.map c),[id]):=by subst hx hl;have hi':lg (q.map c)=true:=by{simp only[lg,List.all_map,Hc];exact fun x _=>hc.im x};have e:((q.map c).drop 0).take q.length=q.map c:=by{rw[H3,H2 (by simp)]};have e0:cI L (n+1) (.rs id 0 q.length)=match L id with|some (some rs)=>if 0+q.length<=rs.length then(oY (cI L n) ((rs.drop 0).take q.length)).map fun x=>(.sl x.1,id::x.2)else none|_=>none:=rfl;rw[e0,hh];simp only;rw[if_pos (by simp),e];simp[oY,hi']
end
/-! ### Borrowing lists whose elements own memory -/
class aia{α:Type}(c:α->List U)(c':outParam (α->List U)):Prop where cI:∀L n x,fj (cI L (n+2)) (c x)=some (c' x,[])ade:∀x,fK (c x)=false
section
variable{L:Id->Option (Option Rows)}{n m:Nat}{α:Type}{c c':α->List U}{q:List α}{k:Nat}{x x':α}{r r':List U}{id:Id}{ids:List Id}{v:U}
end
section
variable{α:Type}{c c':α->List U}{q:List α}{L:Id->Option (Option Rows)}{n:Nat}{id:Id}{as bs cs cs':List U}{x:U}{is i2:List Id}
theorem IA{y:Option (U×List Id)}(h:cI L n x=y:=by repeat'(first|exact Xd|exact aiB|exact aiC|(apply aiD;exact rfl)|exact W9|exact aiR|exact Xc|exact Xb|exact aiT|exact aiX|exact aiW|(apply aiU;exact rfl;exact rfl;exact rfl;(first|(with_reducible assumption)|assumption);exact xQ;exact inferInstance;rotate_left;exact rfl)|(apply aiV;exact rfl;exact rfl;exact rfl;(first|(with_reducible assumption)|assumption);exact acP;exact inferInstance;rotate_left;exact rfl)|exact Xa|exact aiQ|exact aiJ|exact aiG|exact aiS|exact aiK|exact aiN|exact aiP|exact aiO|exact aiL|exact aiI|exact aiM|exact aiF|exact FM|(apply FL;exact rfl)|(apply aiA;exact rfl;exact rfl)|(apply aiH;exact rfl;exact rfl;exact rfl)|(apply aiE;exact rfl))):cI L n x=y:=h
theorem W2(h:as=[]:=by exact rfl):q9 L as=some ([],[]):=by subst h;rfl
theorem W1{a b:U}{z:List Id}(ha:cs=a::as)(h1:cI L 9 a=some (b,is))(h2:q9 L as=some (bs,i2))(hz:is++i2=z):q9 L cs=some (b::bs,z):=by subst ha hz;unfold q9 at*;simp[fj,h1,h2]
theorem blk{y:Option (List U×List Id)}(h:q9 L as=y:=by repeat'(first|exact W2|(apply W1;exact rfl;exact IA)|exact rfl)):q9 L as=y:=h
theorem aha{ms:List Nat}(h:as=[]:=by exact rfl):jY L ms as=some ([],[],[],[]):=by subst h;cases ms<;>rfl
section
variable{ms:List Nat}{a b b':U}{i s t z:List Id}
theorem ag9{u:List Id}(ha:cs=a::as)(h:pk L 9 a=some (b,i))(k:jY L ms as=some (bs,s,t,z))(hu:i++t=u):jY L (1::ms) cs=some (b::bs,s,u,z):=by subst ha hu;simp[jY,k,h]
theorem ahb{u:List Id}(ha:cs=a::as)(h:cI L 9 a=some (b,i))(k:jY L ms as=some (bs,s,t,z))(hu:i++s=u):jY L (0::ms) cs=some (b::bs,u,t,z):=by subst ha hu;simp[jY,k,h]
end
theorem ahd{ms:List Nat}{y:Option (List U×List Id×List Id×List Id)}(h:jY L ms as=y:=by repeat'(first|exact aha|(apply ag9;exact rfl;exact pP)|(apply ahb;exact rfl;exact IA)|(apply amt;exact rfl;exact pP;exact FQ)|(apply amu;exact rfl;exact IA)|exact rfl)):jY L ms as=y:=h
/-! Nothing from elsewhere -/
end
section
variable{cS:Operand}{ts:Array TypeId}{eE:FuncId}{as bs cs args:List U}{seen:List Id}{r:U}{wr:List (Id×Option Rows)}{xs:Array Operand}
theorem Jm(hfo:un g (S.get C cS)= .fn (.func eE) as bs)(ef:C.iT eE=false):me C (un g (S.get C cS))=none:=by rw[hfo];simp[me,ef]
theorem IX{d':Option Tmp}(h:me C (un g (S.get C cS))=none):bS C f call S g ⟨d', .call ⟨.value cS,xs,ts⟩,ty,pos,bl,bO⟩=(match pathOf C cS with|some p=>uD S ⟨d', .call ⟨.value cS,xs,ts⟩,ty,pos,bl,bO⟩ p (xs.toList.map fun x=>un g (S.get C x))|none=>if A5 C cS then(match(generalizing:=false)cS with| .func k=>ri C f call S ⟨d', .call ⟨.value cS,xs,ts⟩,ty,pos,bl,bO⟩ k (xs.toList.map fun x=>un g (S.get C x))|_=>none)else rf C f call S ⟨d', .call ⟨.value cS,xs,ts⟩,ty,pos,bl,bO⟩ (un g (S.get C cS)) (xs.toList.map fun x=>un g (S.get C x))):=by show(match me C (un g (S.get C cS))with|some x=>qg C f call S _ x.1 (x.2.1++(xs.toList.map fun x=>un g (S.get C x))++x.2.2)|none=>_)=_;rw[h];first|rfl|(cases cS<;>rfl)
theorem cv(hc:call eE args=some (r,[]))(hfo:un g (S.get C cS)= .fn (.func eE) as bs:=by exact rfl)(hb:q9 S.h (as++(xs.toList.map fun x=>un g (S.get C x))++bs)=some (args,seen):=by exact blk)(hm:(seen.isEmpty||mine r)=true:=by first|exact rfl|exact QE)(hz:(C.gx f).contains d=false:=by exact rfl)(hi:imp [d] r=(v',wr):=by exact C1)(hf:fresh S.h wr=true:=by exact rfl)(ht:A5 C cS=false:=by exact rfl)(xx:pathOf C cS=none:=by exact rfl)(hlk:C.look eE=false:=by exact rfl)(ef:C.iT eE=false:=by exact rfl):bS C f call S g ⟨some d, .call ⟨.value cS,xs,ts⟩,ty,pos,bl,bO⟩=some ⟨[(d,v')],seen,wr⟩:=by rw[IX (Jm hfo ef)];rw[xx];simp only;rw[ht];simp only[Do,if_false];rw[hfo];simp only[rf,hlk,hb,hc,fM,hz,Do,if_false];rw[if_neg (by cases seen with|nil=>(simp)|cons a l=>simp at hm;simp[hm]),hi];simp only[hf,if_true];rfl
theorem aS(hc:call eE args=some (r,[]))(hfo:un g (S.get C cS)= .fn (.func eE) as bs:=by exact rfl)(hb:q9 S.h (as++(xs.toList.map fun x=>un g (S.get C x))++bs)=some (args,seen):=by exact blk)(hm:(seen.isEmpty||mine r)=true:=by first|exact rfl|exact QE)(hz:(C.gx f).contains d=true:=by exact rfl)(hv:dN r=v:=by exact FQ)(hi:imp [d] v=(v',wr):=by exact C1)(hf:fresh S.h wr=true:=by exact rfl)(ht:A5 C cS=false:=by exact rfl)(xx:pathOf C cS=none:=by exact rfl)(hlk:C.look eE=false:=by exact rfl)(ef:C.iT eE=false:=by exact rfl):bS C f call S g ⟨some d, .call ⟨.value cS,xs,ts⟩,ty,pos,bl,bO⟩=some ⟨[(d,v')],seen,wr⟩:=by rw[IX (Jm hfo ef)];rw[xx];simp only;rw[ht];simp only[Do,if_false];rw[hfo];simp only[rf,hlk,Do,if_false,hb,hc,fM,hz,if_true,hv];rw[if_neg (by cases seen with|nil=>(simp)|cons a l=>simp at hm;simp[hm]),hi];simp only[hf,if_true];rfl
theorem Xo{ms cT:List Nat}{outs:List U}{tk dI:List Id}{back:List (Id×Option Rows)}{nW:List (Id×Option Rows)}(hm:C.Aa eE=ms)(hm0:ms.isEmpty=false)(hle:C.cT eE=cT)(ht:jY S.h ms (xs.toList.map fun x=>un g (S.get C x))=some (args,seen,tk,dI))(hc:call eE args=some (r,outs))(hv:(if fM C f (some d)then dN r else r)=v)(hb:ie S.h (xs.toList.map fun x=>un g (S.get C x)) cT outs=some back)(h1:(eF (tk++dI)&&wo seen (tk++dI))=true)(h2:(seen.isEmpty||mine r&&outs.all mine)=true)(h3:(eF (back.map (·.1))&&(back.all fun x=>tk.contains x.1))=true)(hi:imp [d] v=(v',nW))(hf:fresh S.h nW=true)(hw:nW++(back++(tk++dI).map fun i=>(i,none))=wr)(xx:C.path eE=none)(ef:C.iT eE=false:=by exact rfl):bS C f call S g ⟨some d, .call ⟨.value (.func eE),xs,ts⟩,ty,pos,bl,bO⟩=some ⟨[(d,v')],seen,wr⟩:=by rw[IX (Jm (as:=[]) (bs:=[]) rfl ef)];simp only[pathOf,xx];have e0:A5 C (.func eE)=true:=by{simp[A5,hm,hm0]};subst hw hm hle hv;rw[e0,if_pos rfl];unfold ri;simp only[ht,hc,hb,hi];simp only[A0]at h1 h3;rw[if_pos (by simp only[A0];exact⟨⟨⟨⟨⟨h1.1,h1.2⟩,h2⟩,h3.1⟩,h3.2⟩,hf⟩)];rfl
end
end
open Go
def B4{α:Type}(a b:List α):Option Unit:=if a.length=b.length then some ()else none
theorem YO{α:Type}{a b:List α}{u:Unit}(h:B4 a b=some u):a.length=b.length:=by unfold B4 at h;split at h;·{(first|(with_reducible assumption)|assumption)};·cases h
section
variable{L:Id->Option (Option Rows)}{id:Id}{cs old as bs args:List U}{n m:Nat}{α:Type}{c:α->List U}{q q0:List α}{w w2:List (Id×Option Rows)}{a b:U}{j:Nat}{l:List Nat}
theorem agw(hlen:q.length=q0.length)(ha:a= .rs id 0 m:=by exact rfl)(hb:b= .own (q.map c) q.length:=by exact rfl)(hh:L id=some (some (q0.map c)):=by exact rfl)(hm:m=q0.length:=by exact xQ)(hn:∀x,(c x).length=n:=by exact fun _=>rfl):ko L a b=some [(id,some (q.map c))]:=by subst ha hb hm;cases q0 with|nil=>(obtain rfl:q=[]:=List.length_eq_zero_iff.1 hlen;simp only[Hk]at hh;simp[ko,hh])|cons x q0=>simp only[Hd]at hh;simp only[ko,hh];rw[if_pos ⟨by simpa using hlen,by simpa using hlen,by simp,by simp[hn]⟩]
theorem agx{r:Rows}(ha:a= .sl r:=by exact rfl):ko L a b=some []:=by subst ha;rfl
theorem afz(ha:as=[]:=by exact rfl)(hb:bs=[]:=by exact rfl):jE L as bs=some []:=by subst ha hb;rfl
theorem afy(ha:cs=a::as)(hb:old=b::bs)(h1:ko L a b=some w)(h2:jE L as bs=some w2):jE L cs old=some (w++w2):=by subst ha hb;simp[jE,h1,h2]
theorem af4(hb:bs=[]:=by exact rfl):ie L args [] bs=some []:=by subst hb;rfl
theorem af3(hb:old=b::bs)(ha:args[j]? =some a)(h1:tQ L a b=some w)(h2:ie L args l bs=some w2):ie L args (j::l) old=some (w++w2):=by subst hb;simp[ie,ha,h1,h2]
theorem rlk{y:Option (List (Id×Option Rows))}(h:ie L args l bs=y:=by repeat'(first|exact af4|exact al5|exact al6|exact agx|exact agw (by(first|(with_reducible assumption)|assumption))|exact afz|(apply afy;exact rfl;exact rfl)|(apply al4;exact rfl;exact rfl)|(apply al3;exact rfl)|(apply af3;exact rfl;exact rfl))):ie L args l bs=y:=h
end
section
variable{C:aC}{f:FuncId}{call:gG}{S:ah}{g:Bool}
variable{d:Nat}{ty:TypeId}{pos:String}{bl:Array Edge}{bO:Option (Nat×Bool)}{v v':U}
theorem adE{xs:Array Operand}{ts:Array TypeId}{eE:FuncId}{ms cT:List Nat}{args outs:List U}{seen tk dI:List Id}{r:U}{back nW wr:List (Id×Option Rows)}(hc:call eE args=some (r,outs))(hm:C.Aa eE=ms:=by exact rfl)(hm0:ms.isEmpty=false:=by exact rfl)(hle:C.cT eE=cT:=by exact rfl)(ht:jY S.h ms (xs.toList.map fun x=>un g (S.get C x))=some (args,seen,tk,dI):=by exact ahd)(hz:(C.gx f).contains d=true:=by exact rfl)(hv:dN r=v:=by exact FQ)(hb:ie S.h (xs.toList.map fun x=>un g (S.get C x)) cT outs=some back:=by exact rlk)(h1:(eF (tk++dI)&&wo seen (tk++dI))=true:=by exact rfl)(h2:(seen.isEmpty||mine r&&outs.all mine)=true:=by first|exact rfl|exact aj9 QE akT)(h3:(eF (back.map (·.1))&&(back.all fun x=>tk.contains x.1))=true:=by exact rfl)(hi:imp [d] v=(v',nW):=by exact C1)(hf:fresh S.h nW=true:=by exact rfl)(hw:nW++(back++(tk++dI).map fun i=>(i,none))=wr:=by exact spine)(xx:C.path eE=none:=by exact rfl)(ef:C.iT eE=false:=by exact rfl):bS C f call S g ⟨some d, .call ⟨.value (.func eE),xs,ts⟩,ty,pos,bl,bO⟩=some ⟨[(d,v')],seen,wr⟩:=Xo hm hm0 hle ht hc (v:=v) (by simp only[fM,hz,if_true,hv]) hb h1 h2 h3 hi hf hw xx ef
end
theorem dH{C:aC}{f:FuncId}{a b:Nat}{args:List U}{r:Option (U×List U)}(h:den C a f args=r)(e:a=b):den C b f args=r:=e▸h
/-! ### Functions -/
def GP:List U->U|[r]=>r|vs=> .aV vs
def Fin(C:aC)(rv:List ResultVar)(cT:List Nat)(r:U)(outs:List U)(x:Exit×ah):Prop:=(x.1= .ret∨x.1= .normal)∧∃vs ids is,kT C x.2 rv=some (vs,ids)∧jW x.2.h x.2.t cT=some (outs,is)∧eF (ids++is)=true∧GP vs=r
section
variable{C:aC}{f:FuncId}{call:gG}{S:ah}{T:TypeId}
variable{rv:List ResultVar}{cT:List Nat}{vs outs cs r:List U}{ids is:List Id}{v v':U}
theorem agi:kT C S []=some ([],[]):=rfl
theorem agk{t:Nat}(h:pk S.h 9 (un true (S.t t))=some (v,ids))(hr:kT C S rv=some (vs,is)):kT C S (.tmp t::rv)=some (v::vs,ids++is):=by show(vv C S (.tmp t)).bind _=_;simp only[vv,h,AC,hr,GE]
theorem agj{a m:Nat}{id:Id}{bb:Bool}[ha:ew C T bb m](hx:un true (S.t a)= .mp id 0 0)(hh:S.h id=some (some [r]))(hl:GT m r.length=true)(hv:kg bb (r.take m)=some v)(h:pk S.h 9 v=some (v',ids))(hr:kT C S rv=some (vs,is)):kT C S (.cell a T::rv)=some (v'::vs,id::ids++is):=by show(vv C S (.cell a T)).bind _=_;have hl':0+m<=r.length:=by{have:=Hb hl;omega};simp only[vv,ha.mQ,ha.sz,hx,hh,PQ,if_pos hl',H3,hv,AC,h,hr,GE]
theorem Gx{cells:List U}(hc:cells=cs:=by exact spine):kg true cells=some (.agg cs):=by subst hc;rfl
theorem Sh{y:Option (List U×List Id)}(h:kT C S rv=y:=by repeat'(first|with_reducible exact agi|((with_reducible apply agk);exact pP)|((with_reducible apply agj);exact rfl;exact rfl;exact rfl;(first|exact Gx|exact K1 rfl);exact pP)|((with_reducible apply al2);exact rfl;exact rfl;(first|exact Gx|exact K1 rfl);exact pP))):kT C S rv=y:=h
theorem ct{fn:Func}{c:Code}{args:List U}{nn N:Nat}{r:U}{t:Nat->U}{h:Id->Option (Option Rows)}{sl:List Nat}(hf:C.P.funcs[f]? =some fn)(hn:fn.ntmps=N)(hr:fn.results.toList=rv)(k:W C f (den C nn) c ⟨N,t,h⟩ (Fin C rv cT r outs))(hb:fn.body=some c:=by exact rfl)(he:C.ext f=none:=by exact rfl)(hle:C.cT f=cT:=by exact rfl)(hl:GT args.length N=true:=by exact rfl)(mj:List.range args.length=sl:=by exact rfl)(hm:aD N sl args=⟨N,t,h⟩:=by exact K2)(ef:C.iT f=false:=by exact rfl):den C (nn+1) f args=some (r,outs):=by obtain⟨⟨e,s⟩,h1,h2,vs,ids,is,h3,h6,h4,h5⟩:=k;subst hr hn hle mj;show uy C (den C nn) mu f args=_;unfold uy;simp only[he,hf,hb,ef,Do,if_false,if_pos (Hb hl),hm,h1,AC];have dB:finish C fn (C.cT f) args s=some (r,outs):=by{unfold finish;simp only at h3 h6;rw[h3,h6];simp only[h4,if_true];rw[<-h5];congr 2;cases vs with|nil=>(rfl)|cons a l=>cases l<;>rfl};rcases h2 with h2|h2;·{simp only at h2;subst h2;exact dB};·simp only at h2;subst h2;exact dB
end
/-! ### Loops -/
def cB.go{bU ρ ρ':Type}(kb:bU->Option ρ)(Gn:ρ'->Option ρ):cB bU ρ'->Option ρ| .cQ x=>kb x| .ret r=>Gn r
section
variable{C:aC}{f:FuncId}{call:gG}{S:ah}{Q:Exit×ah->Prop}{c:Code}{σ bU ρ ρ':Type}{r:ρ}{k:Nat}{o:Option (Bool×List Nat)}{rep:σ->ah}[mP]
def uf(o:Option (Bool×List Nat))(rep:σ->ah)(Rel:bU->Exit×ah->Prop)(y:bZ σ bU)(x:Exit×ah):Prop:=match y with| .next s'=>x.1= .normal∧fh o x.2=some (rep s')| .out v=>x.1≠ .normal∧Rel v x
def uI(C:aC)(f:FuncId)(c:Code):Option (Bool×List Nat):=match mU c with|some i=>some (C.shr f i,C.live f i)|none=>some (false,[])
theorem Qz{step:σ->Option (bZ σ bU)}(Rel:bU->Exit×ah->Prop){di:σ}{v:bU}(hL:Loop step di=some v)(h0:fh (uI C f c) S=some (rep di))
  (body:∀s y,step s=some y->W C f call c (rep s) (uf (uI C f c) rep Rel y)):∃x,cX C f call mu (.loop c) S=some x∧Rel v x:=by
 obtain⟨m,hm⟩:=HM hL
 have key:∀(b:Bool)(slots:List Nat),uI C f c=some (b,slots)->(match mU c with|some i=>C.live f i|none=>[])=slots->(match mU c with|some i=>C.shr f i|none=>false)=b->∃x,cX C f call mu (.loop c) S=some x∧Rel v x:=by
  intro b slots hk hs hb
  rw[hk]at h0 body
  cases b with
  |true=>
   have key:∀m s,LoopN step m s=some v->∃x,mu ah (fun S'=>cX C f call mu c S') (fun S'=>norm S' slots) (rep s)=some x∧Rel v x:=by
    intro m
    induction m with
    |zero=>intro s h;simp[LoopN]at h
    |succ m ih=>
     intro s h
     simp only[LoopN,Ha]at h
     obtain⟨y,h1,h2⟩:=h
     obtain⟨⟨e,S'⟩,h3,h4⟩:=body s y h1
     rw[QA]
     simp only[h3,AC]
     cases y with
     |next s'=>
      obtain⟨rfl,h5⟩:=h4
      have h5:norm S' slots=some (rep s'):=h5
      simp only[h5,AC]
      exact ih s' h2
     |out o'=>
      obtain⟨h5,h6⟩:=h4
      obtain rfl:o'=v:=by simpa using h2
      cases e with
      |normal=>exact absurd rfl h5
      |_=>exact⟨_,rfl,h6⟩
   obtain⟨x,h3,h4⟩:=key m di hm
   refine⟨x, ?_,h4⟩
   subst hs
   simp only[cX]
   refine(if_pos hb).trans ?_
   exact(congrArg (Pi · _) (show norm S _=some (rep di)from h0)).trans h3
  |false=>
   have h0:(jn S slots).map (aD S.n slots)=some (rep di):=h0
   obtain⟨ahy,aae,aaf⟩:=Option.map_eq_some_iff.1 h0
   have hn:∀s,(∃vH,aD S.n slots vH=rep s)->(rep s).n=S.n:=fun s⟨vH,h⟩=>by rw[<-h,z7]
   have key:∀m s vH,aD S.n slots vH=rep s->LoopN step m s=some v->∃x,mu (List U) (fun cj=>cX C f call mu c (aD S.n slots cj)) (fun S'=>jn S' slots) vH=some x∧Rel v x:=by
    intro m
    induction m with
    |zero=>intro s vH _ h;simp[LoopN]at h
    |succ m ih=>
     intro s vH PT h
     simp only[LoopN,Ha]at h
     obtain⟨y,h1,h2⟩:=h
     obtain⟨⟨e,S'⟩,h3,h4⟩:=body s y h1
     rw[QA]
     simp only[PT,h3,AC]
     cases y with
     |next s'=>
      obtain⟨rfl,h5⟩:=h4
      have h5:(jn S' slots).map (aD S'.n slots)=some (rep s'):=h5
      obtain⟨ahx,Jq,FV⟩:=Option.map_eq_some_iff.1 h5
      have Cu:S'.n=S.n:=by rw[Ow Gq _ _ _ h3];exact hn s ⟨vH,PT⟩
      rw[Cu]at FV
      simp only[Jq,AC]
      exact ih s' ahx FV h2
     |out o'=>
      obtain⟨h5,h6⟩:=h4
      obtain rfl:o'=v:=by simpa using h2
      cases e with
      |normal=>exact absurd rfl h5
      |_=>exact⟨_,rfl,h6⟩
   obtain⟨x,h3,h4⟩:=key m di ahy aaf hm
   refine⟨x, ?_,h4⟩
   subst hs
   simp only[cX]
   refine(if_neg fun e=>Kd (hb.symm.trans e)).trans ?_
   exact(congrArg (Pi · _) aae).trans h3
 unfold uI at key
 split at key
 ·exact key _ _ rfl rfl rfl
 ·exact key _ _ rfl rfl rfl
def EY(C:aC)(f:FuncId)(k:Nat)(kq:bU->ah)(v:bU)(x:Exit×ah):Prop:=x.1= .exit k∧fh (C.o5 f k) x.2=some (kq v)
def Bz(C:aC)(f:FuncId)(k:Nat)(kq:bU->ah)(R:ρ'->Exit×ah->Prop):cB bU ρ'->Exit×ah->Prop| .cQ v,x=>EY C f k kq v x| .ret r,x=>R r x
theorem b7{step:σ->Option (bZ σ bU)}{di:σ}{tZ:bU->Option ρ}(rep:σ->ah)(kq:bU->ah)(hF:(Loop step di).bind tZ=some r)(h0:fh (uI C f c) S=some (rep di))(body:∀s y,step s=some y->W C f call c (rep s) (uf (uI C f c) rep (EY C f k kq) y))(post:∀v,tZ v=some r->Q (.normal,kq v)):W C f call (.block k (.loop c)) S Q:=by obtain⟨v,h1,h2⟩:=Fj hF;obtain⟨⟨e,S'⟩,h3,rfl,h5⟩:=Qz (EY C f k kq) h1 h0 body;exact aJ ⟨_,h3,RM h5 (post v h2)⟩
theorem j9{step:σ->Option (bZ σ (cB bU ρ'))}{di:σ}{kb:bU->Option ρ}{Gn:ρ'->Option ρ}(rep:σ->ah)(kq:bU->ah)(R:ρ'->Exit×ah->Prop)(hF:(Loop step di).bind (cB.go kb Gn)=some r)(h0:fh (uI C f c) S=some (rep di))(body:∀s y,step s=some y->W C f call c (rep s) (uf (uI C f c) rep (Bz C f k kq R) y))(post:∀v,kb v=some r->Q (.normal,kq v))(rq:∀v,Gn v=some r->∀x,R v x->qa C f k Q x):W C f call (.block k (.loop c)) S Q:=by obtain⟨v,h1,h2⟩:=Fj hF;obtain⟨x,h3,h4⟩:=Qz (Bz C f k kq R) h1 h0 body;cases v with|cQ v=>(obtain⟨e,S'⟩:=x;obtain⟨rfl,h5⟩:=h4;exact aJ ⟨_,h3,RM h5 (post v h2)⟩)|ret v=>exact aJ ⟨_,h3,rq v h2 _ h4⟩
variable{Rel:bU->Exit×ah->Prop}{kq:bU->ah}{R:ρ'->Exit×ah->Prop}
theorem ln{s':σ}{y:bZ σ bU}(hy:some (bZ.next s')=some y)(hc:fh o S=some (rep s')):uf o rep Rel y (.normal,S):=by cases hy;exact⟨rfl,hc⟩
theorem lx{v:bU}{y:bZ σ bU}(hy:some (bZ.out v)=some y)(hc:fh (C.o5 f k) S=some (kq v)):uf o rep (EY C f k kq) y (.exit k,S):=by cases hy;exact⟨by simp,rfl,hc⟩
theorem ke{v:bU}{y:bZ σ (cB bU ρ')}(hy:some (bZ.out (cB.cQ v))=some y)(hc:fh (C.o5 f k) S=some (kq v)):uf o rep (Bz C f k kq R) y (.exit k,S):=by cases hy;exact⟨by simp,rfl,hc⟩
theorem lr{v:ρ'}{y:bZ σ (cB bU ρ')}(hy:some (bZ.out (cB.ret v))=some y)(h:R v (.ret,S)):uf o rep (Bz C f k kq R) y (.ret,S):=by cases hy;exact⟨by simp,h⟩
theorem lrr{v:ρ'}{y:bZ σ (cB bU ρ')}{x:Exit×ah}(hy:some (bZ.out (cB.ret v))=some y)(hx:x.1≠ .normal)(h:R v x):uf o rep (Bz C f k kq R) y x:=by cases hy;exact⟨hx,h⟩
end
theorem inj{α:Type}{a b:α}(h:some a=some b):a=b:=H4 h
open Go
/-! ### Operations -/
section
variable{C:aC}{f:FuncId}{call:gG}{S:ah}{g:Bool}
variable{d:Nat}{ty:TypeId}{pos:String}{bl:Array Edge}{bO:Option (Nat×Bool)}{v v':U}
variable{x y z:Operand}{k:IntKind}{a b:Int}{T dO:TypeId}
end
/-! ### At a function's end -/
section
variable{C:aC}{S:ah}{rv:List ResultVar}{cT:List Nat}{vs outs:List U}{ids is:List Id}{r:U}
theorem aE(h:kT C S rv=some ([r],ids):=by exact Sh)(hp:jW S.h S.t cT=some (outs,is):=by exact LF)(hn:eF (ids++is)=true:=by exact rfl):Fin C rv cT r outs (.ret,S):=⟨.inl rfl,[r],ids,is,h,hp,hn,rfl⟩
theorem bN{a b:U}(h:kT C S rv=some (a::b::vs,ids):=by exact Sh)(hp:jW S.h S.t cT=some (outs,is):=by exact LF)(hn:eF (ids++is)=true:=by exact rfl):Fin C rv cT (.aV (a::b::vs)) outs (.ret,S):=⟨.inl rfl,_,ids,is,h,hp,hn,rfl⟩
end
end Go.Ab
