import Derived.Test.YtbbhbdlljfffdaaGreatDoorAbFn
import Derived.Test.YtbbhbdlljfffdaaGreatDoorAbSimp
open Bool renaming false_eq_true->GE,and_eq_true->GT,noConfusion->PH,and_self->Pi,false_and->Ps
open Classical renaming choose_spec->Lk
open List renaming nil_append->Hk,all_eq_true->Hm,replicate->Hn,map_cons->H0,map_nil->H1,foldl->H2,range->H3,length_drop->H4,take_of_length_le->H5,all_map->IH,drop_zero->If,isEmpty_cons->Nm,append_nil->PP,length_cons->QP,getElem?_cons_zero->QR,map_append->RK
open Nat renaming blt->Do,ble->Ha,le_of_ble_eq_true->Hc,ble_eq_true_of_le->QQ
open Option renaming bind_some->AC,map_some->Hb,bind_eq_some_iff->Hd,map_eq_some_iff->PQ,bind->R0
open Option.some renaming inj->Ix,injEq->Kd
set_option linter.all false
namespace Go.Ab
open Go
abbrev gF:=FuncId->List U->Option (U×List U)
abbrev bG(n:Int):Int:=IntKind.i64.wrap n
def idx{α:Type}(l:List α)(i:Int):Option α:=if 0<=i then l[i.toNat]? else none
theorem aib{α β:Type}{c:α->β}{l:List α}{i:Int}{x:α}(h:idx l i=some x):idx (l.map c) i=some (c x):=by unfold idx at*;split at h;·{rw[if_pos ‹_›];simp[h]};·cases h
theorem rf{α:Type}{l:List α}{i:Int}{x:α}(h:idx l i=some x):l[i.toNat]? =some x:=by unfold idx at h;split at h;·{exact h};·cases h
theorem NV{α:Type}{l:List α}{i:Int}{x:α}(h:idx l i=some x):0<=i∧i<(l.length:Nat):=by unfold idx at h;split at h;·{rename_i hp;refine⟨hp, ?_⟩;rcases Nat.lt_or_ge i.toNat l.length with h'|h';·{omega};·rw[List.getElem?_eq_none h']at h;cases h};·cases h
theorem Im{α β:Type}{o:Option α}{k:α->Option β}{r:β}(h:o.bind k=some r):∃x,o=some x∧k x=some r:=Option.bind_eq_some_iff.1 h
theorem bb{α β:Type}{o:Option α}{k:α->Option β}{r:β}{G:Prop}(h:o.bind k=some r)(g:∀x,o=some x->k x=some r->G):G:=by obtain⟨x,h1,h2⟩:=Im h;exact g x h1 h2
def W(C:aE)(f:FuncId)(call:gF)(c:Code)(S:ai)(Q:Exit×ai->Prop):Prop:=∃x,cR C f call lV c S=some x∧Q x
theorem ar{P:Prop}(h:P:=by exact rfl):P:=h
def eN(C:aE)(f:FuncId)(call:gF)(ops:Array Oper)(m:Option (List Nat))(i:Nat)(l:List Oper)(ks:List eI)(S:ai)(K:List eI->ai->Prop)(Z:List eI->p9->Prop):Prop:=∃x,jG C f call ops m i l S=some x∧match x.1 with| .inl S'=>K (ks++x.2) S'| .inr p=>Z (ks++x.2) p
def Av(_:List eI)(_:p9):Prop:=False
abbrev oq(C:aE)(f:FuncId)(call:gF)(ops:Array Oper)(l:List Oper)(S:ai)(K:List eI->ai->Prop):Prop:=eN C f call ops none 0 l [] S K Av
theorem Bn{C:aE}{f:FuncId}{call:gF}{ops:Array Oper}{l:List Oper}{S:ai}{K:List eI->ai->Prop}(h:oq C f call ops l S K):∃x,mq C f call ops 0 l S=some x∧K ([]++x.2) x.1:=by obtain⟨⟨z,ks⟩,h1,h2⟩:=h;cases z with|inl S'=>(exact⟨(S',ks),L4 h1,h2⟩)|inr p=>exact h2.elim
/-! ### Loops -/
inductive b8(σ b7:Type)where|next(s:σ)|out(x:b7)
inductive cj(b7 ρ:Type)where|dz(x:b7)|ret(r:ρ)
def LoopN{σ b7:Type}(step:σ->Option (b8 σ b7)):Nat->σ->Option b7|0,_=>none|m+1,s=>(step s).bind fun y=>match y with| .next s'=>LoopN step m s'| .out x=>some x
open Classical in noncomputable def DS{σ b7:Type}(step:σ->Option (b8 σ b7))(s:σ):Option b7:=if h:∃x m,LoopN step m s=some x then some (Classical.choose h)else none
theorem KV{σ b7:Type}{step:σ->Option (b8 σ b7)}:∀{m:Nat}{s:σ}{x:b7}(k:Nat),LoopN step m s=some x->LoopN step (m+k) s=some x|0,_,_,_,h=>by{simp[LoopN]at h}|m+1,s,x,k,h=>by rw[Nat.add_right_comm];simp only[LoopN,Hd]at h|-;obtain⟨y,h1,h2⟩:=h;refine⟨y,h1, ?_⟩;cases y with|next s'=>(exact KV k h2)|out x=>exact h2
theorem Yr{σ b7:Type}{step:σ->Option (b8 σ b7)}{m m':Nat}{s:σ}{x y:b7}(h1:LoopN step m s=some x)(h2:LoopN step m' s=some y):x=y:=by have e1:=KV m' h1;have e2:=KV m h2;rw[Nat.add_comm]at e2;rw[e1]at e2;exact Ix e2
theorem Yq{σ b7:Type}{step:σ->Option (b8 σ b7)}{s:σ}{x:b7}(h:DS step s=some x):∃m,LoopN step m s=some x:=by unfold DS at h;split at h;·{rename_i hx;simp only[Kd]at h;subst h;exact Lk hx};·cases h
class k6 where
 cE:∀{σ b7:Type},(σ->Option (b8 σ b7))->σ->Option b7
 ok:∀{σ b7:Type}{step:σ->Option (b8 σ b7)}{s:σ}{x:b7},cE step s=some x->∃m,LoopN step m s=some x
noncomputable instance U6:k6:=⟨DS,Yq⟩
@[reducible]def Vz:k6:=⟨fun step s=>LoopN step 100000 s,fun h=>⟨100000,h⟩⟩
def Loop [k6]{σ b7:Type}(step:σ->Option (b8 σ b7))(s:σ):Option b7:=k6.cE step s
theorem DT [k6]{σ b7:Type}{step:σ->Option (b8 σ b7)}{s:σ}{x:b7}(h:Loop step s=some x):∃m,LoopN step m s=some x:=k6.ok h
theorem KW{σ b7:Type}{step:σ->Option (b8 σ b7)}{m:Nat}{s:σ}{x:b7}(h:LoopN step m s=some x):Loop step s=some x:=by show DS step s=some x;unfold DS;have hx:∃x m,LoopN step m s=some x:=⟨x,m,h⟩;rw[dif_pos hx];obtain⟨m',h'⟩:=Lk hx;rw[Yr h' h]
theorem cK{σ b7:Type}(step:σ->Option (b8 σ b7))(s:σ):Loop step s=(step s).bind fun y=>match y with| .next s'=>Loop step s'| .out x=>some x:=by apply Option.ext;intro x;constructor;·{intro h;obtain⟨m,h⟩:=DT h;cases m with|zero=>(simp[LoopN]at h)|succ m=>simp only[LoopN,Hd]at h|-;obtain⟨y,h1,h2⟩:=h;refine⟨y,h1, ?_⟩;cases y with|next s'=>(exact KW h2)|out x=>exact h2};·intro h;simp only[Hd]at h;obtain⟨y,h1,h2⟩:=h;cases y with|next s'=>(obtain⟨m,h3⟩:=DT h2;exact KW (m:=m+1) (by simp only[LoopN,h1,AC,h3]))|out x=>exact KW (m:=1) (by simp only[LoopN,h1,AC];exact h2)
section
variable{C:aE}{f:FuncId}{call:gF}{S:ai}{n:Nat}{t:Nat->U}{h:Id->Option (Option Rows)}
variable{Q:Exit×ai->Prop}{a b c:Code}{ρ:Type}{r:ρ}{l:List Oper}{id k:Nat}
/-! ### Code -/
def DX(C:aE)(f:FuncId)(call:gF)(b:Code)(Q:Exit×ai->Prop)(x:Exit×ai):Prop:=match x.1 with| .normal=>∃S',fH (jW C f b) x.2=some S'∧W C f call b S' Q|_=>Q x
theorem sq(h:W C f call a S (DX C f call b Q)):W C f call (.seq a b) S Q:=by obtain⟨⟨e,s⟩,h1,h2⟩:=h;cases e with|normal=>(obtain⟨S',h5,y,h3,h4⟩:=h2;exact⟨y,by simp only[cR,h1,AC,h5,h3],h4⟩)|_=>exact⟨_,by simp only[cR,h1,AC],h2⟩
theorem aN(h:W C f call b S Q)(hk:jW C f b=none:=by exact rfl):DX C f call b Q (.normal,S):=⟨S,by rw[hk];rfl,h⟩
theorem aY(h:Q (.ret,S)):DX C f call b Q (.ret,S):=h
theorem jr(h:Q (.exit k,S)):DX C f call b Q (.exit k,S):=h
theorem cd{x:Operand}{p:Bool}{A B:Option ρ}(hF:(if p=true then A else B)=some r)(h1:A=some r->W C f call a S Q)(h2:B=some r->W C f call b S Q)(hc:un true (S.get C x)= .val (.bool p):=by exact rfl):W C f call (.cond x a b) S Q:=by cases p with|true=>(obtain⟨y,h3,h4⟩:=h1 (by simpa using hF);exact⟨y,by simp only[cR,hc];simpa using h3,h4⟩)|false=>obtain⟨y,h3,h4⟩:=h2 (by simpa using hF);exact⟨y,by simp only[cR,hc];simpa using h3,h4⟩
theorem acU{x:Operand}(h1:W C f call a S Q)(hc:un true (S.get C x)= .val (.bool true):=by exact rfl):W C f call (.cond x a b) S Q:=by obtain⟨y,h3,h4⟩:=h1;exact⟨y,by simp only[cR,hc];simpa using h3,h4⟩
theorem acT{x:Operand}(h1:W C f call b S Q)(hc:un true (S.get C x)= .val (.bool false):=by exact rfl):W C f call (.cond x a b) S Q:=by obtain⟨y,h3,h4⟩:=h1;exact⟨y,by simp only[cR,hc];simpa using h3,h4⟩
theorem sk(h:Q (.normal,S)):W C f call .skip S Q:=⟨_,rfl,h⟩
theorem rt(h:Q (.ret,S)):W C f call .ret S Q:=⟨_,rfl,h⟩
theorem ex(h:Q (.exit k,S)):W C f call (.exit k) S Q:=⟨_,rfl,h⟩
def qR(C:aE)(f:FuncId)(k:Nat)(Q:Exit×ai->Prop)(x:Exit×ai):Prop:=match x.1 with| .normal=>∃S',fH (C.qZ f k) x.2=some S'∧Q (.normal,S')| .exit j=>if j=k then∃S',fH (C.qZ f k) x.2=some S'∧Q (.normal,S')else Q (.exit j,x.2)|_=>Q x
theorem bS(h:W C f call c S (qR C f k Q)):W C f call (.block k c) S Q:=by obtain⟨⟨e,s⟩,h1,h2⟩:=h;cases e with|normal=>(obtain⟨S',h3,h4⟩:=h2;exact⟨_,by simp only[cR,h1,AC,h3,Hb],h4⟩)|exit j=>(simp only[qR]at h2;split at h2;·{rename_i hj;obtain⟨S',h3,h4⟩:=h2;exact⟨_,by simp only[cR,h1,AC,hj,if_true,h3,Hb],h4⟩};·rename_i hj;exact⟨_,by simp only[cR,h1,AC,hj,if_false],h2⟩)|_=>exact⟨_,by simp only[cR,h1,AC],h2⟩
theorem cm(h:Q (.normal,S))(hk:C.qZ f k=none:=by exact rfl):qR C f k Q (.normal,S):=⟨S,by rw[hk];rfl,h⟩
theorem bt(h:Q (.ret,S)):qR C f k Q (.ret,S):=h
theorem Pd(h:Q (.normal,S))(hk:C.qZ f k=none:=by exact rfl):qR C f k Q (.exit k,S):=by simp only[qR,if_true];exact⟨S,by rw[hk];rfl,h⟩
theorem amb{j:Nat}(h:Q (.exit j,S))(hj:Nat.beq j k=false:=by exact rfl):qR C f k Q (.exit j,S):=by have:j≠k:=fun e=>by{subst e;simp at hj};simpa[qR,this]using h
/-! ### Places where the state is told anew -/
theorem Wy{S':ai}(hc:fH (C.qZ f k) S=some S')(h:Q (.normal,S')):qR C f k Q (.exit k,S):=by simp only[qR,if_true];exact⟨S',hc,h⟩
def DW(σ:Type)(o:Option (Bool×List Nat))(rep:σ->ai)(oV:σ->Option ρ)(r:ρ)(Q:Exit×ai->Prop)(x:Exit×ai):Prop:=match x.1 with| .normal=>∃s,fH o x.2=some (rep s)∧oV s=some r|_=>Q x
theorem ga{σ:Type}(rep:σ->ai)(oV:σ->Option ρ)(ha:W C f call a S (DW σ (jW C f b) rep oV r Q))(hk:∀s,oV s=some r->W C f call b (rep s) Q):W C f call (.seq a b) S Q:=by refine sq ?_;obtain⟨⟨e,s⟩,h1,h2⟩:=ha;refine⟨_,h1, ?_⟩;cases e with|normal=>(obtain⟨s,h3,h4⟩:=h2;exact⟨_,h3,hk s h4⟩)|_=>exact h2
theorem cc{σ:Type}{o:Option (Bool×List Nat)}{rep:σ->ai}{oV:σ->Option ρ}(s:σ)(hF:oV s=some r)(hc:fH o S=some (rep s)):DW σ o rep oV r Q (.normal,S):=⟨s,hc,hF⟩
theorem l6{σ:Type}{o:Option (Bool×List Nat)}{rep:σ->ai}{oV:σ->Option ρ}(h:Q (.ret,S)):DW σ o rep oV r Q (.ret,S):=h
theorem amc{σ:Type}{o:Option (Bool×List Nat)}{rep:σ->ai}{oV:σ->Option ρ}(h:Q (.exit k,S)):DW σ o rep oV r Q (.exit k,S):=h
section
variable{σ:Type}{rep:σ->ai}{oV:σ->Option ρ}
end
/-! ### Regions -/
section
variable{K:List eI->ai->Prop}{Z:List eI->p9->Prop}{m:Option (List Nat)}{ops:Array Oper}{i:Nat}{ks:List eI}
def u0(C:aE)(f:FuncId)(call:gF)(id:Nat)(ops:Array Oper)(draw:Bool)(S:ai)(Q:Exit×ai->Prop):Prop:=∃S',(o7 C f call id ops draw S).bind (mo C f id)=some S'∧Q (.normal,S')
def yX(C:aE)(f:FuncId)(id:Nat)(P:ai->Prop)(ks:List eI)(S:ai):Prop:=nN (C.fQ f id) ks=true∧P S
def yV(l:List Nat)(K:ai->Prop)(S:ai):Prop:=∃S',kM l S=some S'∧K S'
def nH(p:Nat)(lo As:List Nat)(K:ai->Prop)(S:ai):Prop:=∃S',nY p lo S=some S'∧yV As K S'
theorem w0{ops:Array Oper}{jw:Bool}(h:u0 C f call id ops jw S Q)(ha:C.mw f id=[]:=by exact rfl)(hn:C.nu f id=false:=by exact rfl):W C f call (.region id ops jw) S Q:=by obtain⟨S',h1,h2⟩:=h;exact⟨_,by simp[cR,hn,ha,kM,h1],h2⟩
theorem X5{ops:Array Oper}{jw:Bool}(h:yV (C.mw f id) (fun ig=>u0 C f call id ops jw ig Q) S)(hn:C.nu f id=false:=by exact rfl):W C f call (.region id ops jw) S Q:=by obtain⟨ig,h0,S',h1,h2⟩:=h;exact⟨_,by simp[cR,hn,h0,h1],h2⟩
theorem gC{ops:Array Oper}{jw:Bool}(h:u0 C f call id ops jw S fun x=>W C f call b x.2 Q)(ha:C.mw f id=[])(hk2:jW C f b=none)(hn:C.nu f id=false):W C f call (.seq (.region id ops jw) b) S Q:=sq (w0 (hn:=hn) (by obtain⟨S',h1,h2⟩:=h;exact⟨S',h1,aN h2 hk2⟩) ha)
theorem Dl{ops:Array Oper}{jw:Bool}(h:yV (C.mw f id) (fun ig=>u0 C f call id ops jw ig fun x=>W C f call b x.2 Q) S)(hk2:jW C f b=none:=by exact rfl)(hn:C.nu f id=false:=by exact rfl):W C f call (.seq (.region id ops jw) b) S Q:=sq (X5 (hn:=hn) (by obtain⟨ig,h0,S',h1,h2⟩:=h;exact⟨ig,h0,S',h1,aN h2 hk2⟩))
theorem Sx(h:oq C f call ⟨l⟩ l S fun _ S'=>Q (.normal,S'))(hk:C.jP f id=none:=by exact rfl)(hz:C.kO f id=[]:=by exact rfl)(ho:C.jI f id=[]:=by exact rfl):u0 C f call id ⟨l⟩ false S Q:=by obtain⟨x,h1,h2⟩:=Bn h;exact⟨_,by simp[o7,h1,hk,fH,mo,hz,ho,kM,nY],h2⟩
theorem Sy(h:oq C f call ⟨l⟩ l S (yX C f id fun S'=>Q (.normal,S')))(hk:C.jP f id=none:=by exact rfl)(hz:C.kO f id=[]:=by exact rfl)(ho:C.jI f id=[]:=by exact rfl):u0 C f call id ⟨l⟩ true S Q:=by obtain⟨x,h1,h2,h3⟩:=Bn h;simp only[Hk]at h2;exact⟨_,by simp[o7,h1,h2,hk,fH,mo,hz,ho,kM,nY],h3⟩
theorem Et(h:oq C f call ⟨l⟩ l S fun _ S'=>nH (1000+id) (C.jI f id) (C.kO f id) (fun bW=>Q (.normal,bW)) S')(hk:C.jP f id=none:=by exact rfl):u0 C f call id ⟨l⟩ false S Q:=by obtain⟨x,h1,bK,h0,bW,h2,h3⟩:=Bn h;exact⟨_,by simp[o7,h1,hk,fH,mo,h0,h2],h3⟩
theorem BJ(h:oq C f call ⟨l⟩ l S (yX C f id fun S'=>nH (1000+id) (C.jI f id) (C.kO f id) (fun bW=>Q (.normal,bW)) S'))(hk:C.jP f id=none:=by exact rfl):u0 C f call id ⟨l⟩ true S Q:=by obtain⟨x,h1,h4,bK,h0,bW,h2,h3⟩:=Bn h;simp only[Hk]at h4;exact⟨_,by simp[o7,h1,h4,hk,fH,mo,h0,h2],h3⟩
theorem rg(h:oq C f call ⟨l⟩ l S fun _ S'=>Q (.normal,S'))(hk:C.jP f id=none:=by exact rfl)(hz:C.kO f id=[]:=by exact rfl)(ho:C.jI f id=[]:=by exact rfl)(ha:C.mw f id=[]:=by exact rfl)(hn:C.nu f id=false:=by exact rfl):W C f call (.region id ⟨l⟩ false) S Q:=w0 (Sx h hk hz ho) ha hn
theorem amL(h:oq C f call ⟨l⟩ l S (yX C f id fun S'=>Q (.normal,S')))(hk:C.jP f id=none:=by exact rfl)(hz:C.kO f id=[]:=by exact rfl)(ho:C.jI f id=[]:=by exact rfl)(ha:C.mw f id=[]:=by exact rfl)(hn:C.nu f id=false:=by exact rfl):W C f call (.region id ⟨l⟩ true) S Q:=w0 (Sy h hk hz ho) ha hn
theorem ag(h:oq C f call ⟨l⟩ l S fun _ S'=>W C f call b S' Q)(hk:C.jP f id=none:=by exact rfl)(hz:C.kO f id=[]:=by exact rfl)(ho:C.jI f id=[]:=by exact rfl)(ha:C.mw f id=[]:=by exact rfl)(hk2:jW C f b=none:=by exact rfl)(hn:C.nu f id=false:=by exact rfl):W C f call (.seq (.region id ⟨l⟩ false) b) S Q:=gC (Sx h hk hz ho) ha hk2 hn
theorem pX(h:oq C f call ⟨l⟩ l S (yX C f id fun S'=>W C f call b S' Q))(hk:C.jP f id=none:=by exact rfl)(hz:C.kO f id=[]:=by exact rfl)(ho:C.jI f id=[]:=by exact rfl)(ha:C.mw f id=[]:=by exact rfl)(hk2:jW C f b=none:=by exact rfl)(hn:C.nu f id=false:=by exact rfl):W C f call (.seq (.region id ⟨l⟩ true) b) S Q:=gC (Sy h hk hz ho) ha hk2 hn
theorem uF(h:oq C f call ⟨l⟩ l S fun _ S'=>nH (1000+id) (C.jI f id) (C.kO f id) (fun bW=>Q (.normal,bW)) S')(hk:C.jP f id=none:=by exact rfl)(ha:C.mw f id=[]:=by exact rfl)(hn:C.nu f id=false:=by exact rfl):W C f call (.region id ⟨l⟩ false) S Q:=w0 (Et h hk) ha hn
theorem WV(h:oq C f call ⟨l⟩ l S (yX C f id fun S'=>nH (1000+id) (C.jI f id) (C.kO f id) (fun bW=>Q (.normal,bW)) S'))(hk:C.jP f id=none:=by exact rfl)(ha:C.mw f id=[]:=by exact rfl)(hn:C.nu f id=false:=by exact rfl):W C f call (.region id ⟨l⟩ true) S Q:=w0 (BJ h hk) ha hn
theorem dK(h:oq C f call ⟨l⟩ l S fun _ S'=>nH (1000+id) (C.jI f id) (C.kO f id) (fun bW=>W C f call b bW Q) S')(hk:C.jP f id=none:=by exact rfl)(ha:C.mw f id=[]:=by exact rfl)(hk2:jW C f b=none:=by exact rfl)(hn:C.nu f id=false:=by exact rfl):W C f call (.seq (.region id ⟨l⟩ false) b) S Q:=gC (Et h hk) ha hk2 hn
theorem Kz(h:oq C f call ⟨l⟩ l S (yX C f id fun S'=>nH (1000+id) (C.jI f id) (C.kO f id) (fun bW=>W C f call b bW Q) S'))(hk:C.jP f id=none:=by exact rfl)(ha:C.mw f id=[]:=by exact rfl)(hk2:jW C f b=none:=by exact rfl)(hn:C.nu f id=false:=by exact rfl):W C f call (.seq (.region id ⟨l⟩ true) b) S Q:=gC (BJ h hk) ha hk2 hn
theorem aF{p:Nat}{K:ai->Prop}{lo As:List Nat}(k:yV As K S)(hl:lo=[]:=by exact rfl):nH p lo As K S:=by subst hl;exact⟨_,rfl,k⟩
theorem aG{p:Nat}{K:ai->Prop}{S':ai}{lo As:List Nat}(s:Nat)(sl:List Nat)(he:s0 p S s=some S')(k:nH p sl As K S')(hl:lo=s::sl:=by exact rfl):nH p lo As K S:=by subst hl;obtain⟨bW,h1,h2⟩:=k;exact⟨bW,by simp only[nY,he,AC];exact h1,h2⟩
theorem alb{p s row off:Nat}{id:Id}{r r':List U}{x:Id×Option Rows}{wr:List (Id×Option Rows)}(hs:t s= .mp id row off)(hid:h id=some (some [r]))(hu:bV [p,s] 0 r=(r',x::wr))(NI:Do s n=true)(hf:fresh h (x::wr)=true):s0 p ⟨n,t,h⟩ s=some ⟨n,t,bl h ((id,some [r'])::x::wr)⟩:=by have hs':s<n:=of_decide_eq_true (by simp[Do]at NI|-;omega);simp only[s0,hs,hid,hu,Nm,GE,if_false];rw[if_pos ⟨hs',hf⟩]
theorem aD{K:ai->Prop}{l:List Nat}(k:K S)(hl:l=[]:=by exact rfl):yV l K S:=by subst hl;exact⟨_,rfl,k⟩
theorem zz{K:ai->Prop}{S':ai}{l:List Nat}(s:Nat)(sl:List Nat)(he:o9 S s=some S')(k:yV sl K S')(hl:l=s::sl:=by exact rfl):yV l K S:=by subst hl;obtain⟨bW,h1,h2⟩:=k;exact⟨bW,by simp only[kM,he,AC];exact h1,h2⟩
theorem nl(h:K ks S):eN C f call ops m i [] ks S K Z:=⟨_,rfl,by simpa using h⟩
def C4(ks:List eI):Bool:=ks.all fun k=>k.2.2.isEmpty
theorem Kn(a b:List eI):C4 (a++b)=(C4 a&&C4 b):=by simp[C4]
theorem jy{P:ai->Prop}(h:P S)(hf:nN (C.fQ f id) ks=true:=by first|exact rfl|exact Fk _ _ rfl|(apply Fk;simp[Kn, *];done)|(apply Fk;simp only[Kn,Bool.and_eq_true];(repeat' constructor)<;>first|assumption|rfl)):eN C f call ops m i [] ks S (yX C f id P) Z:=⟨_,rfl,by simpa using hf,h⟩
def HL(σ:Type)(C:aE)(f:FuncId)(id:Nat)(draw:Bool)(rep:σ->ai)(x:σ)(ks:List eI)(S:ai):Prop:=(draw=true->nN (C.fQ f id) ks=true)∧nH (1000+id) (C.jI f id) (C.kO f id) (fun bW=>fH (C.jP f id) bW=some (rep x)) S
theorem adF{σ:Type}{draw:Bool}{A:Option σ}{wO:σ->Option ρ}(rep:σ->ai)(hF:A.bind wO=some r)(k1:∀x,A=some x->oq C f call ⟨l⟩ l S (HL σ C f id draw rep x))(k2:∀x,wO x=some r->Q (.normal,rep x)):u0 C f call id ⟨l⟩ draw S Q:=by obtain⟨x,h1,h2⟩:=Im hF;obtain⟨y,h3,h4,bK,h5,bW,h6,h7⟩:=Bn (k1 x h1);simp only[Hk]at h4;refine⟨rep x, ?_,k2 x h2⟩;simp only[o7,h3,AC];cases draw with|false=>(simp[mo,h5,h6,h7])|true=>simp[h4 rfl,mo,h5,h6,h7]
theorem fF{σ:Type}{draw:Bool}{A:Option σ}{wO:σ->Option ρ}(rep:σ->ai)(hF:A.bind wO=some r)(k1:∀x,A=some x->oq C f call ⟨l⟩ l S (HL σ C f id draw rep x))(k2:∀x,wO x=some r->W C f call b (rep x) Q)(ha:C.mw f id=[]:=by exact rfl)(hk2:jW C f b=none:=by exact rfl)(hn:C.nu f id=false:=by exact rfl):W C f call (.seq (.region id ⟨l⟩ draw) b) S Q:=gC (adF rep hF k1 k2) ha hk2 hn
theorem sX{σ:Type}{rep:σ->ai}{x:σ}(h:nH (1000+id) (C.jI f id) (C.kO f id) (fun bW=>fH (C.jP f id) bW=some (rep x)) S):eN C f call ops m i [] ks S (HL σ C f id false rep x) Z:=⟨_,rfl,And.intro (fun e=>PH e) h⟩
theorem ck{σ:Type}{rep:σ->ai}{x:σ}(hc:fH (C.jP f id) S=some (rep x))(hz:C.kO f id=[]:=by exact rfl)(ho:C.jI f id=[]:=by exact rfl):eN C f call ops m i [] ks S (HL σ C f id false rep x) Z:=sX (by rw[hz,ho];exact⟨_,rfl,_,rfl,hc⟩)
variable{d:Nat}{ty:TypeId}{pos:String}{bg:Array Edge}{bM:Option (Nat×Bool)}{op:Op}{v:U}{g:Bool}
theorem ahf(i:Nat)(e:aZ)(l:List eI):hkey i e l=hkey i e []++l:=by unfold hkey;split<;>simp
theorem A3{o:Oper}{e:aZ}(hy:l9 m o=true)(he:tS C f call S ops o=some e)(hs:(e.ei.all fun x=>decide (x.1<S.n))=true)(k:eN C f call ops (th m i) (i+1) l (ks++hkey i e []) (S.app e) K Z):eN C f call ops m i (o::l) ks S K Z:=by obtain⟨x,h1,h2⟩:=k;refine⟨(x.1,hkey i e x.2), ?_, ?_⟩;·{simp only[jG,hy,he,if_true];rw[if_pos hs,h1];rfl};·rw[ahf];simpa using h2
theorem sd{d n:Nat}(h:Do d n=true):decide (d<n)=true:=by simp[Do]at h|-;omega
theorem pp(he:bP C f call ⟨n,t,h⟩ true ⟨some d,op,ty,pos,bg,none⟩=some ⟨[(d,v)],[],[]⟩)(k:eN C f call ops (th m i) (i+1) l ks ⟨n,au t d v,h⟩ K Z)(hs:Do d n=true:=by exact rfl)(hy:l9 m ⟨some d,op,ty,pos,bg,none⟩=true:=by exact rfl):eN C f call ops m i (⟨some d,op,ty,pos,bg,none⟩::l) ks ⟨n,t,h⟩ K Z:=A3 (e:=⟨[(d,v)],[],[]⟩) hy he (by simpa using sd hs) (by simpa[hkey,ai.app]using k)
theorem rr{y:Id}{rd:List Id}(he:bP C f call ⟨n,t,h⟩ true ⟨some d,op,ty,pos,bg,none⟩=some ⟨[(d,v)],y::rd,[]⟩)(k:eN C f call ops (th m i) (i+1) l (ks++[(i,y::rd,[])]) ⟨n,au t d v,h⟩ K Z)(hs:Do d n=true:=by exact rfl)(hy:l9 m ⟨some d,op,ty,pos,bg,none⟩=true:=by exact rfl):eN C f call ops m i (⟨some d,op,ty,pos,bg,none⟩::l) ks ⟨n,t,h⟩ K Z:=A3 (e:=⟨[(d,v)],y::rd,[]⟩) hy he (by simpa using sd hs) (by simpa[hkey,ai.app]using k)
theorem ww{ux:Option Nat}{ei:List (Nat×U)}{rd:List Id}{x:Id×Option Rows}{wr:List (Id×Option Rows)}(he:bP C f call ⟨n,t,h⟩ true ⟨ux,op,ty,pos,bg,none⟩=some ⟨ei,rd,x::wr⟩)(k:eN C f call ops (th m i) (i+1) l (ks++[(i,rd,(x::wr).map (·.1))]) ⟨n,dL t ei,bl h (x::wr)⟩ K Z)(hs:(ei.all fun x=>Do x.1 n)=true:=by exact rfl)(hy:l9 m ⟨ux,op,ty,pos,bg,none⟩=true:=by exact rfl):eN C f call ops m i (⟨ux,op,ty,pos,bg,none⟩::l) ks ⟨n,t,h⟩ K Z:=A3 (e:=⟨ei,rd,x::wr⟩) hy he (by rw[Hm]at hs|-;exact fun y hy=>sd (hs y hy)) (by simpa[hkey,ai.app]using k)
theorem aB{j:Nat}{wt:Bool}{l0:List Oper}(hg:vz wt ⟨n,t,h⟩ (q2 l0 j)=some g)(he:bP C f call ⟨n,t,h⟩ g ⟨some d,op,ty,pos,bg,some (j,wt)⟩=some ⟨[(d,v)],[],[]⟩)(k:eN C f call ⟨l0⟩ (th m i) (i+1) l ks ⟨n,au t d (.dR g v),h⟩ K Z)(hs:Do d n=true:=by exact rfl)(hy:l9 m ⟨some d,op,ty,pos,bg,some (j,wt)⟩=true:=by exact rfl):eN C f call ⟨l0⟩ m i (⟨some d,op,ty,pos,bg,some (j,wt)⟩::l) ks ⟨n,t,h⟩ K Z:=A3 (e:=⟨[(d, .dR g v)],[],[]⟩) hy (by rw[IP,hg,Iy,IS,he];rfl) (by simpa using sd hs) (by simpa[hkey,ai.app]using k)
theorem amM{j:Nat}{wt:Bool}{l0:List Oper}{y:Id}{rd:List Id}(hg:vz wt ⟨n,t,h⟩ (q2 l0 j)=some g)(he:bP C f call ⟨n,t,h⟩ g ⟨some d,op,ty,pos,bg,some (j,wt)⟩=some ⟨[(d,v)],y::rd,[]⟩)(k:eN C f call ⟨l0⟩ (th m i) (i+1) l (ks++[(i,y::rd,[])]) ⟨n,au t d (.dR g v),h⟩ K Z)(hs:Do d n=true:=by exact rfl)(hy:l9 m ⟨some d,op,ty,pos,bg,some (j,wt)⟩=true:=by exact rfl):eN C f call ⟨l0⟩ m i (⟨some d,op,ty,pos,bg,some (j,wt)⟩::l) ks ⟨n,t,h⟩ K Z:=A3 (e:=⟨[(d, .dR g v)],y::rd,[]⟩) hy (by rw[IP,hg,Iy,IS,he];rfl) (by simpa using sd hs) (by simpa[hkey,ai.app]using k)
theorem pt{j:Nat}{wt:Bool}{l0:List Oper}(hg:vz wt ⟨n,t,h⟩ (q2 l0 j)=some true)(he:bP C f call ⟨n,t,h⟩ true ⟨some d,op,ty,pos,bg,some (j,wt)⟩=some ⟨[(d,v)],[],[]⟩)(k:eN C f call ⟨l0⟩ (th m i) (i+1) l ks ⟨n,au t d (.dR true v),h⟩ K Z)(hs:Do d n=true:=by exact rfl)(hy:l9 m ⟨some d,op,ty,pos,bg,some (j,wt)⟩=true:=by exact rfl):eN C f call ⟨l0⟩ m i (⟨some d,op,ty,pos,bg,some (j,wt)⟩::l) ks ⟨n,t,h⟩ K Z:=aB hg he k hs hy
theorem yC{j:Nat}{wt:Bool}{l0:List Oper}{y:Id}{rd:List Id}(hg:vz wt ⟨n,t,h⟩ (q2 l0 j)=some true)(he:bP C f call ⟨n,t,h⟩ true ⟨some d,op,ty,pos,bg,some (j,wt)⟩=some ⟨[(d,v)],y::rd,[]⟩)(k:eN C f call ⟨l0⟩ (th m i) (i+1) l (ks++[(i,y::rd,[])]) ⟨n,au t d (.dR true v),h⟩ K Z)(hs:Do d n=true:=by exact rfl)(hy:l9 m ⟨some d,op,ty,pos,bg,some (j,wt)⟩=true:=by exact rfl):eN C f call ⟨l0⟩ m i (⟨some d,op,ty,pos,bg,some (j,wt)⟩::l) ks ⟨n,t,h⟩ K Z:=amM hg he k hs hy
theorem Hy{j:Nat}{wt:Bool}{l0:List Oper}{ei:List (Nat×U)}{rd:List Id}{x:Id×Option Rows}{wr:List (Id×Option Rows)}{ux:Option Nat}(hg:vz wt ⟨n,t,h⟩ (q2 l0 j)=some true)(he:bP C f call ⟨n,t,h⟩ true ⟨ux,op,ty,pos,bg,some (j,wt)⟩=some ⟨ei,rd,x::wr⟩)(k:eN C f call ⟨l0⟩ (th m i) (i+1) l (ks++[(i,rd,(x::wr).map (·.1))]) ⟨n,dL t ei,bl h (x::wr)⟩ K Z)(hs:(ei.all fun x=>Do x.1 n)=true:=by exact rfl)(hy:l9 m ⟨ux,op,ty,pos,bg,some (j,wt)⟩=true:=by exact rfl):eN C f call ⟨l0⟩ m i (⟨ux,op,ty,pos,bg,some (j,wt)⟩::l) ks ⟨n,t,h⟩ K Z:=A3 (e:=⟨ei,rd,x::wr⟩) hy (by rw[IP,hg,Iy,IS,he];rfl) (by rw[Hm]at hs|-;exact fun y hy=>sd (hs y hy)) (by simpa[hkey,ai.app]using k)
theorem gf{wt:Bool}{d:Nat}{u:U}{ux:Option Nat}(hd:ux=some d:=by exact rfl)(h:S.t d= .dR false u:=by exact rfl):vz wt S ux=some false:=by subst hd;rw[TF,h];cases u with|val v=>(cases v<;>simp[B1])|_=>rfl
theorem no{d:Nat}{j:Nat}{wt:Bool}{l0:List Oper}(k:∀u ks',C4 ks'=true->eN C f call ⟨l0⟩ (th m i) (i+1) l (ks++ks') ⟨n,au t d (.dR false u),h⟩ K Z)(hg:vz wt ⟨n,t,h⟩ (q2 l0 j)=some false:=by first|exact gf|exact rfl)(hs:Do d n=true:=by exact rfl)(hy:l9 m ⟨some d,op,ty,pos,bg,some (j,wt)⟩=true:=by exact rfl):eN C f call ⟨l0⟩ m i (⟨some d,op,ty,pos,bg,some (j,wt)⟩::l) ks ⟨n,t,h⟩ K Z:=by have hj:∀(v:U)(rd:List Id),tS C f call ⟨n,t,h⟩ ⟨l0⟩ ⟨some d,op,ty,pos,bg,some (j,wt)⟩=some ⟨[(d, .dR false v)],rd,[]⟩->eN C f call ⟨l0⟩ m i (⟨some d,op,ty,pos,bg,some (j,wt)⟩::l) ks ⟨n,t,h⟩ K Z:=fun v rd he=>A3 hy he (by simpa using sd hs) (by have:=k v (hkey i ⟨[(d, .dR false v)],rd,[]⟩ []) (by unfold hkey C4;split<;>simp);simpa[ai.app,dL]using this);rw[IP,hg,Iy,IS]at hj;cases he:bP C f call ⟨n,t,h⟩ false ⟨some d,op,ty,pos,bg,some (j,wt)⟩with|none=>(exact hj .aU [] (by rw[he];rfl))|some e=>obtain⟨ei,rd,wr⟩:=e;cases wr with|cons x wr=>(exact hj .aU [] (by rw[he];rfl))|nil=>rcases PR he with⟨v,hv⟩|⟨hv,_⟩;·{simp only[put]at hv;subst hv;exact hj v rd (by rw[he];rfl)};·exact absurd rfl hv
theorem eM{A B:Option ρ}{d:Nat}{p:Bool}(hF:(if p=true then A else B)=some r)(h1:A=some r->eN C f call ops m i l ks ⟨n,au t d (.val (.bool true)),h⟩ K Z)(h2:B=some r->eN C f call ops m i l ks ⟨n,au t d (.val (.bool false)),h⟩ K Z)(hd:t d= .val (.bool p):=by exact rfl):eN C f call ops m i l ks ⟨n,t,h⟩ K Z:=by have e:∀q,t d= .val (.bool q)->au t d (.val (.bool q))=t:=fun q hq=>by{funext j;unfold au;split;·{rename_i hj;subst hj;exact hq.symm};·rfl};cases p with|true=>(have:=h1 (by simpa using hF);rwa[e _ hd]at this)|false=>have:=h2 (by simpa using hF);rwa[e _ hd]at this
theorem rW{A B:Option ρ}{d:Nat}{p:Bool}(hF:(if p=true then A else B)=some r)(h1:A=some r->eN C f call ops m i l ks ⟨n,au t d (.dR true (.val (.bool true))),h⟩ K Z)(h2:B=some r->eN C f call ops m i l ks ⟨n,au t d (.dR true (.val (.bool false))),h⟩ K Z)(hd:t d= .dR true (.val (.bool p)):=by exact rfl):eN C f call ops m i l ks ⟨n,t,h⟩ K Z:=by have e:∀q,t d= .dR true (.val (.bool q))->au t d (.dR true (.val (.bool q)))=t:=fun q hq=>by{funext j;unfold au;split;·{rename_i hj;subst hj;exact hq.symm};·rfl};cases p with|true=>(have:=h1 (by simpa using hF);rwa[e _ hd]at this)|false=>have:=h2 (by simpa using hF);rwa[e _ hd]at this
theorem gj{o:Oper}(k:eN C f call ops m (i+1) l ks S K Z)(hy:l9 m o=false:=by exact rfl):eN C f call ops m i (o::l) ks S K Z:=by obtain⟨x,h1,h2⟩:=k;exact⟨x,by simp only[jG,hy,GE,if_false];exact h1,h2⟩
theorem Ww{o:Oper}{v:Value}{e:aZ}(he:tS C f call S ops o=none)(hp:pP C call S ops o=some (v,e))(k:Z ks ⟨i,l,S,v,e⟩)(hm:m=none:=by exact rfl):eN C f call ops m i (o::l) ks S K Z:=by subst hm;exact⟨_,by simp only[jG,l9,if_true,he,hp,Hb];rfl,by simpa using k⟩
def KS(C:aE)(f:FuncId)(id:Nat)(p:p9)(ks:List eI)(Q:Exit×ai->Prop)(ks':List eI)(S:ai):Prop:=nN (C.fQ f id) (ks++(ks'++[(p.i,p.e.rd,p.e.wr.map (·.1))]))=true∧Q (fL p.v,xQ (Cw (C.fQ f id) p.i (ks++ks')) (S.app p.e))
def DR(C:aE)(f:FuncId)(call:gF)(id:Nat)(ops:Array Oper)(jw:Bool)(Q:Exit×ai->Prop)(ks:List eI)(p:p9):Prop:=if jw then eN C f call ops (some (H3 p.i)) (p.i+1) p.l [] p.S (KS C f id p ks Q) Av else Q (fL p.v,p.S.app p.e)
def HM(C:aE)(f:FuncId)(id:Nat)(jw:Bool)(Q:Exit×ai->Prop)(ks:List eI)(S:ai):Prop:=(jw=true->nN (C.fQ f id) ks=true)∧nH (1000+id) (C.jI f id) (C.kO f id) (fun bW=>∃jE,fH (C.jP f id) bW=some jE∧Q (.normal,jE)) S
def WP(C:aE)(f:FuncId)(call:gF)(id:Nat)(ops:Array Oper)(draw:Bool)(S:ai)(Q:Exit×ai->Prop):Prop:=∃x,tU C f call id ops draw S=some x∧Q x
theorem ao7{jw:Bool}(h:eN C f call ⟨l⟩ none 0 l [] S (HM C f id jw Q) (DR C f call id ⟨l⟩ jw Q)):WP C f call id ⟨l⟩ jw S Q:=by obtain⟨⟨z,ks⟩,h1,h2⟩:=h;cases z with|inl S'=>(obtain⟨h2,bW,h3,jE,h4,aap,h5,h6⟩:=h2;simp only[Hk]at h2;refine⟨(.normal,aap), ?_,h6⟩;unfold tU;simp only[h1];cases jw with|false=>(simp[mo,h3,h4,h5])|true=>simp[h2 rfl,mo,h3,h4,h5])|inr p=>simp only[Hk]at h2;unfold DR at h2;cases jw with|false=>(simp only[GE,if_false]at h2;exact⟨_,by unfold tU;simp only[h1];unfold EH;simp only[GE,if_false],h2⟩)|true=>simp only[if_true]at h2;obtain⟨⟨z,ks'⟩,h3,h4⟩:=h2;cases z with|inr _=>(exact h4.elim)|inl S'=>simp only[Hk]at h4;exact⟨_,by unfold tU;simp only[h1];unfold EH;simp only[if_true,h3,h4.1],h4.2⟩
theorem cp{jw:Bool}(h:eN C f call ⟨l⟩ none 0 l [] S (HM C f id jw Q) (DR C f call id ⟨l⟩ jw Q))(hn:C.nu f id=true:=by exact rfl)(ha:C.mw f id=[]:=by exact rfl):W C f call (.region id ⟨l⟩ jw) S Q:=by obtain⟨x,h1,h2⟩:=ao7 h;exact⟨x,by simp[cR,hn,ha,kM,h1],h2⟩
theorem cU(h:nH (1000+id) (C.jI f id) (C.kO f id) (fun bW=>Q (.normal,bW)) S)(hk:C.jP f id=none:=by exact rfl):eN C f call ops m i [] ks S (HM C f id false Q) Z:=⟨_,rfl,(fun e=>by cases e),by obtain⟨bK,h1,bW,h2,h3⟩:=h;exact⟨bK,h1,bW,h2,bW,by rw[hk];rfl,h3⟩⟩
theorem sY(h:nH (1000+id) (C.jI f id) (C.kO f id) (fun bW=>Q (.normal,bW)) S)(hk:C.jP f id=none:=by exact rfl)(hf:nN (C.fQ f id) ks=true:=by first|exact rfl|exact Fk _ _ rfl|(apply Fk;simp[Kn, *];done)|(apply Fk;simp only[Kn,Bool.and_eq_true];(repeat' constructor)<;>first|assumption|rfl)):eN C f call ops m i [] ks S (HM C f id true Q) Z:=⟨_,rfl,(fun _=>by simpa using hf),by obtain⟨bK,h1,bW,h2,h3⟩:=h;exact⟨bK,h1,bW,h2,bW,by rw[hk];rfl,h3⟩⟩
theorem cP{v:Value}{rd:List Id}{wr:List (Id×Option Rows)}{wr':List (Id×Option Rows)}(k:Q (fL v,⟨n,t,bl h wr'⟩))(hw:wr=wr':=by exact rfl):DR C f call id ops false Q ks ⟨i,l,⟨n,t,h⟩,v,⟨[],rd,wr⟩⟩:=by subst hw;exact k
theorem rq{v:Value}{rd:List Id}{wr:List (Id×Option Rows)}(k:eN C f call ops (some (H3 i)) (i+1) l [] ⟨n,t,h⟩ (KS C f id ⟨i,l,⟨n,t,h⟩,v,⟨[],rd,wr⟩⟩ ks Q) Av):DR C f call id ops true Q ks ⟨i,l,⟨n,t,h⟩,v,⟨[],rd,wr⟩⟩:=k
theorem rD{p:p9}{ks':List eI}{K':List Id}{wr:List (Id×Option Rows)}{wr':List (Id×Option Rows)}(k:Q (fL p.v,⟨n,fun _=> .aU,bl h wr'⟩))(hf:nN (C.fQ f id) (ks++(ks'++[(p.i,p.e.rd,p.e.wr.map (·.1))]))=true:=by exact rfl)(hK:Cw (C.fQ f id) p.i (ks++ks')=K':=by exact rfl)(hp:p.e.wr=wr:=by exact rfl)(hw:(K'.map fun i=>(i,none))++wr=wr':=by exact rfl):eN C f call ops m i [] ks' ⟨n,t,h⟩ (KS C f id p ks Q) Av:=by subst hK hp hw;refine⟨(.inl _,[]),rfl, ?_, ?_⟩;·{simpa using hf};·have e:xQ (Cw (C.fQ f id) p.i (ks++ks')) (ai.app ⟨n,t,h⟩ p.e)=⟨n,fun _=> .aU,bl h ((Cw (C.fQ f id) p.i (ks++ks')).map (fun i=>(i,none))++p.e.wr)⟩:=by{simp only[xQ,ai.app,ai.mk.injEq,true_and];rw[uM]};simp only[PP];rw[e];exact k
end
/-! Ways of a panic. -/
theorem cF{v:Value}(h:Q (fL v,S)):DX C f call b Q (fL v,S):=h
theorem dJ{v:Value}(h:Q (fL v,S)):qR C f k Q (fL v,S):=h
theorem fM{σ:Type}{o:Option (Bool×List Nat)}{rep:σ->ai}{oV:σ->Option ρ}{v:Value}(h:Q (fL v,S)):DW σ o rep oV r Q (fL v,S):=h
end
open Go
theorem jq{α β:Type}(P:Program)(s:Sem α)(k:α->Sem β):dG P (s>>=k)=(dG P s).bind fun a=>dG P (k a):=by show dG P (s.bind k)=_;induction s with|pure a=>(rfl)|program k2 ih=>(simpa[Sem.bind,dG]using ih P)|_=>simp[Sem.bind,dG]
section
variable{P:Program}
theorem qA{α:Type}(a:α):dG P (pure a:Sem α)=some a:=rfl
theorem O4:dG P program=some P:=rfl
theorem qB{t:TypeId}{d:TypeDesc}(h:P.underlying t=some d):dG P (underlying t)=some d:=by unfold underlying;rw[jq,O4,AC,h];rfl
def OB:TypeDesc->Bool| .struct _=>false| .array _ _=>false|_=>true
theorem al1{t:TypeId}{d:TypeDesc}(h:P.underlying t=some d)(hd:OB d=true):dG P (isAgg t)=some false:=by unfold isAgg;rw[jq,qB h,AC];cases d<;>first|rfl|cases hd
theorem Wk{t:TypeId}{d:TypeDesc}{cs:Array Value}{off:Nat}{v:Value}(h:P.underlying t=some d)(hd:OB d=true)(hv:cs[off]? =some v):dG P (part t cs off)=some v:=by unfold part;rw[jq,al1 h hd,AC,hv];rfl
theorem alZ(d:Nat)(t:TypeId)(xs ys:Array Value)(ht:P.underlying t=some (.struct (P.fieldsOf t)))(hp:P.stoodInHeld t=false):dG P (Op.equalIn (d+1) t (.agg xs) (.agg ys))=dG P (Op.eqFields d xs ys (P.fieldsOf t).toList):=by simp only[Op.equalIn,jq,qB ht,AC,O4,hp,GE,if_false];rw[<-Array.forIn_toList];generalize(P.fieldsOf t).toList=fs;clear ht;induction fs with|nil=>(rfl)|cons f fs ih=>simp only[List.forIn_cons,Op.eqFields,jq];split;·{simp only[jq];cases dG P (part f.type xs f.offset)with|none=>(rfl)|some a=>simp only[AC];cases dG P (part f.type ys f.offset)with|none=>(rfl)|some b=>simp only[AC];cases dG P (Op.equalIn d f.type a b)with|none=>(rfl)|some r=>cases r;·{rfl};·simp only[AC,Bool.not_true,GE,if_false,qA];exact ih};·simp only[qA,AC];exact ih
def Kw:Value->Value->Option Bool| .int k a, .int k' b=>if k=k' then some (a==b)else none| .bool a, .bool b=>some (a==b)| .string a, .string b=>some (a.toList==b.toList)|_,_=>none
def fits:TypeDesc->Value->Bool| .int _, .int _ _=>true| .bool, .bool _=>true| .string, .string _=>true|_,_=>false
theorem alY{d:Nat}{t:TypeId}{D:TypeDesc}{x y:Value}{b:Bool}(h:P.underlying t=some D)(hf:fits D x=true)(he:Kw x y=some b):dG P (Op.equalIn (d+1) t x y)=some b:=by
 cases x<;>cases D<;>simp only[fits,GE]at hf<;>cases y<;>simp only[Kw]at he<;>try cases he
 ·simp[Op.equalIn,jq,qB h,qA]
 ·split at he
  ·rename_i hk;subst hk
   simp only[Kd]at he;subst he
   simp[Op.equalIn,jq,qB h,qA]
  ·cases he
 ·simp[Op.equalIn,jq,qB h,qA,beq_toListBytes]
def BP(P:Program)(xs ys:Array Value):List Field->Option Bool|[]=>some true|f::fs=>if f.name≠ "_" then match P.underlying f.type,xs[f.offset]?,ys[f.offset]? with|some D,some x,some y=>if fits D x then(Kw x y).bind fun b=>(BP P xs ys fs).map (b&&·)else none|_,_,_=>none else none
theorem Wj{d:Nat}{xs ys:Array Value}:∀{fs:List Field}{b:Bool},BP P xs ys fs=some b->dG P (Op.eqFields (d+1) xs ys fs)=some b|[],b,h=>by{simp[BP]at h;subst h;rfl}|f::fs,b,h=>by unfold BP at h;split at h;·{rename_i hn;split at h;·{rename_i D x y hD hx hy;split at h;·{rename_i hf;simp only[Hd,PQ]at h;obtain⟨b1,h1,b2,h2,rfl⟩:=h;have hd:OB D=true:=by{cases D<;>cases x<;>simp[fits]at hf<;>rfl};simp only[Op.eqFields];rw[if_pos hn];simp only[jq,Wk hD hd hx,Wk hD hd hy,Option.bind_some,alY hD hf h1];cases b1;·{rfl};·simpa using Wj h2};·cases h};·cases h};·cases h
theorem acf{t:TypeId}{x y:Operand}{xs ys:Array Value}{fs:Array Field}{b:Bool}(hf:P.underlying t=some (.struct fs))(hp:P.stoodInHeld t=false)(hm:P.eqGuardType P.depth t=false)(he:BP P xs ys fs.toList=some b):fm P .neq t x y (.agg xs) (.agg ys)=some (.bool (!b)):=by have e:P.fieldsOf t=fs:=by{unfold Program.fieldsOf;rw[hf]};unfold fm;have e1:dG P (eqGuard .neq t x y (.agg xs) (.agg ys))=some ():=by{simp[eqGuard,jq,O4,hm,qA]};rw[jq,e1,AC];simp only[binOp,Op.equal,Op.maxDepth];rw[jq,alZ 9999 t xs ys (by rw[e];exact hf) hp,e,Wj he];rfl
end
open Go
inductive cz where|nil|code(n:Int)|other deriving DecidableEq,Inhabited
def iI(t:TypeId):cz->U| .nil=> .val .nilIface| .code n=> .val (.iface t (.int .i64 n))| .other=> .nn
/-! ### Facts about the program's types, found by their numbers -/
class eP(C:aE)(t:TypeId)(d:outParam TypeDesc):Prop where ul:C.P.underlying t=some d
class eD(C:aE)(t:TypeId)(b:outParam Bool)(n:outParam Nat):Prop where
 mm:lU C t=some b
 sz:iP C t=some n
class Fd(C:aE)(t i:Nat)(off n:outParam Nat)(b:outParam Bool):Prop where fd:EL C t i=some (off,n,b)
class mQ(C:aE)(t:TypeId)(cs:outParam (List U)):Prop where hJ:Be C t=some cs
class u6(C:aE)(t:TypeId)(cs:outParam (List U)):Prop where Yg:Bf C t=some cs
class Pl(C:aE)(t:TypeId)(pl:outParam (List (Nat×Nat×Bool))):Prop where pl:O2 C t=some pl
def Ec(C:aE)(e:TypeId)(m:Nat):Bool:=match C.P.info? e with|some i=>i.size==m&&decide (0<m)&&decide (i.bytes<=4096)&&HC i|none=>false
class wN(C:aE)(e:TypeId)(m:outParam Nat):Prop where ao:Ec C e m=true
class qN{α:Type}(c:α->List U):Prop where fl:∀x,dF (c x)=true
class wQ{α:Type}(c:α->List U):Prop where
 im:∀x,fI (c x)=true
 ce:∀x,(c x).all U.cell=true
class HH{α:Type}(c:α->List U)(c':outParam (α->List U)):Prop where ey:∀x,kN (c x)=c' x
class api{α:Type}(c:α->List U):Prop where mi:∀x,nT (c x)=true
section
variable{g g' h k:Bool}{x:U}
theorem KJ{t:TypeId}{e:cz}:un g (iI t e)=iI t e:=by cases e<;>cases g<;>rfl
theorem aoR{p:Bool}:un (true&&p) (.dR (p==true) x)=x:=by cases p<;>rfl
theorem aoS{p:Bool}:un (true&& !p) (.dR (p==false) x)=x:=by cases p<;>rfl
theorem aoT{p:Bool}:un (g&&p) (.dR (g&&(p==true)) x)=x:=by cases p<;>cases g<;>rfl
end
theorem cH{a b:U}(h:a=b:=by first|exact XT _|exact KJ|exact aoP|exact aum|exact aoR|exact aoS|exact aoT|exact aui|exact aua|exact aub|exact aue|exact auc|exact aud):a=b:=h
theorem gt{a b:U}(h:a=b:=by first|exact(rfl:_=U.val _)|exact(rfl:_=U.sl _)|exact(rfl:_=U.rs _ _ _)|exact(rfl:_=U.mp _ _ _)|exact(rfl:_=U.bx _)|exact(rfl:_=U.agg _)|exact(rfl:_=U.cB)|exact(rfl:_=U.aI _)|exact(rfl:_=U.fn _ _ _)|exact KJ|exact aoP|exact(rfl:_=U.nn)|exact(rfl:_=U.mr _)|exact(rfl:_=U.im _)|exact(rfl:_=U.fh _)|exact cH):a=b:=h
theorem aoa{α:Type}{a:α}{l t t':List α}(h:l=a::t)(k:t=t'):l=a::t':=by rw[h,k]
theorem aob{α:Type}{l:List α}(h:l=[]:=by exact rfl):l=[]:=h
theorem spine{α:Type}{a b:List α}(h:a=b:=by repeat(first|exact aob|apply aoa rfl)):a=b:=h
theorem UG{α:Type}{o:Option α}(h:o=none):o.isNone=true:=by rw[h];rfl
section
variable{C:aE}{f:FuncId}{call:gF}{S:ai}{g:Bool}
variable{d:Nat}{ty:TypeId}{pos:String}{bg:Array Edge}{bM:Option (Nat×Bool)}{v v':U}
variable{x y z:Operand}{k:IntKind}{a b:Int}{T dc:TypeId}
theorem aa(h:un g (S.get C x)=v:=by exact gt):bP C f call S g ⟨some d, .move x,ty,pos,bg,bM⟩=some ⟨[(d,v)],[],[]⟩:=by subst h;rfl
theorem af(h:un g (S.get C x)=v:=by exact gt):bP C f call S g ⟨some d, .assign x,ty,pos,bg,bM⟩=some ⟨[(d,v)],[],[]⟩:=by subst h;rfl
theorem pN{op:BinOp}{R2 R3:U}{fq jt oT:Value}(hx:un g (S.get C x)=R2)(hy:un g (S.get C y)=R3)(h1:nE R2=some fq)(h2:nE R3=some jt)(hb:fm C.P op T x y fq jt=some oT)(hs:eS oT=true):bP C f call S g ⟨some d, .binOp op T x y dc,ty,pos,bg,bM⟩=some ⟨[(d, .val oT)],[],[]⟩:=by show vl C _ op T x y (un g (S.get C x)) (un g (S.get C y))=_;rw[hx,hy];simp[vl,h1,h2,hb,hs]
theorem s3{op:BinOp}{oT:Value}(hb:fm C.P op T x y (.int k a) (.int k b)=some oT)(hs:eS oT=true)(hx:un g (S.get C x)= .val (.int k a))(hy:un g (S.get C y)= .val (.int k b)):bP C f call S g ⟨some d, .binOp op T x y dc,ty,pos,bg,bM⟩=some ⟨[(d, .val oT)],[],[]⟩:=pN hx hy rfl rfl hb hs
theorem ir(hx:un g (S.get C x)= .val (.int k a):=by first|exact rfl|exact cH)(hy:un g (S.get C y)= .val (.int k b):=by first|exact rfl|exact cH):bP C f call S g ⟨some d, .binOp .add T x y dc,ty,pos,bg,bM⟩=some ⟨[(d, .val (.int k (k.wrap (a+b))))],[],[]⟩:=s3 ab1 rfl hx hy
theorem kU(hx:un g (S.get C x)= .val (.int k a):=by first|exact rfl|exact cH)(hy:un g (S.get C y)= .val (.int k b):=by first|exact rfl|exact cH):bP C f call S g ⟨some d, .binOp .sub T x y dc,ty,pos,bg,bM⟩=some ⟨[(d, .val (.int k (k.wrap (a-b))))],[],[]⟩:=s3 ach rfl hx hy
theorem ake(hx:un g (S.get C x)= .val (.int k a):=by first|exact rfl|exact cH)(hy:un g (S.get C y)= .val (.int k b):=by first|exact rfl|exact cH):bP C f call S g ⟨some d, .binOp .mul T x y dc,ty,pos,bg,bM⟩=some ⟨[(d, .val (.int k (k.wrap (a*b))))],[],[]⟩:=s3 ab9 rfl hx hy
theorem bk(hx:un g (S.get C x)= .val (.int k a):=by first|exact rfl|exact cH)(hy:un g (S.get C y)= .val (.int k b):=by first|exact rfl|exact cH):bP C f call S g ⟨some d, .binOp .eql T x y dc,ty,pos,bg,bM⟩=some ⟨[(d, .val (.bool (a==b)))],[],[]⟩:=s3 ab3 rfl hx hy
theorem kq(hx:un g (S.get C x)= .val (.int k a):=by first|exact rfl|exact cH)(hy:un g (S.get C y)= .val (.int k b):=by first|exact rfl|exact cH):bP C f call S g ⟨some d, .binOp .neq T x y dc,ty,pos,bg,bM⟩=some ⟨[(d, .val (.bool (a !=b)))],[],[]⟩:=s3 acd rfl hx hy
theorem jl(hx:un g (S.get C x)= .val (.int k a):=by first|exact rfl|exact cH)(hy:un g (S.get C y)= .val (.int k b):=by first|exact rfl|exact cH):bP C f call S g ⟨some d, .binOp .lss T x y dc,ty,pos,bg,bM⟩=some ⟨[(d, .val (.bool (decide (a<b))))],[],[]⟩:=s3 ab8 rfl hx hy
theorem hU(hx:un g (S.get C x)= .val (.int k a):=by first|exact rfl|exact cH)(hy:un g (S.get C y)= .val (.int k b):=by first|exact rfl|exact cH):bP C f call S g ⟨some d, .binOp .leq T x y dc,ty,pos,bg,bM⟩=some ⟨[(d, .val (.bool (decide (a<=b))))],[],[]⟩:=s3 ab7 rfl hx hy
theorem jz(hx:un g (S.get C x)= .val (.int k a):=by first|exact rfl|exact cH)(hy:un g (S.get C y)= .val (.int k b):=by first|exact rfl|exact cH):bP C f call S g ⟨some d, .binOp .gtr T x y dc,ty,pos,bg,bM⟩=some ⟨[(d, .val (.bool (decide (b<a))))],[],[]⟩:=s3 ab6 rfl hx hy
theorem iu(hx:un g (S.get C x)= .val (.int k a):=by first|exact rfl|exact cH)(hy:un g (S.get C y)= .val (.int k b):=by first|exact rfl|exact cH):bP C f call S g ⟨some d, .binOp .geq T x y dc,ty,pos,bg,bM⟩=some ⟨[(d, .val (.bool (decide (b<=a))))],[],[]⟩:=s3 ab5 rfl hx hy
theorem ab4{P:Program}{a b:ByteArray}:fm P .eql T x y (.string a) (.string b)=some (.bool (a.toList==b.toList)):=by simp[fm,eqGuard,binOp,Op.stringOp,dG,bind,Sem.bind,pure]
theorem ace{P:Program}{a b:ByteArray}:fm P .neq T x y (.string a) (.string b)=some (.bool (a.toList !=b.toList)):=by simp[fm,eqGuard,binOp,Op.stringOp,dG,bind,Sem.bind,pure,bne]
theorem gX{a b:ByteArray}(hx:un g (S.get C x)= .val (.string a):=by first|exact rfl|exact cH)(hy:un g (S.get C y)= .val (.string b):=by first|exact rfl|exact cH):bP C f call S g ⟨some d, .binOp .eql T x y dc,ty,pos,bg,bM⟩=some ⟨[(d, .val (.bool (a.toList==b.toList)))],[],[]⟩:=pN hx hy rfl rfl ab4 rfl
theorem OH{a b:ByteArray}(hx:un g (S.get C x)= .val (.string a):=by first|exact rfl|exact cH)(hy:un g (S.get C y)= .val (.string b):=by first|exact rfl|exact cH):bP C f call S g ⟨some d, .binOp .neq T x y dc,ty,pos,bg,bM⟩=some ⟨[(d, .val (.bool (a.toList !=b.toList)))],[],[]⟩:=pN hx hy rfl rfl ace rfl
theorem JX{op:BinOp}{xs ys:List U}{vx vy:List Value}{q:Bool}(hb:fm C.P op T x y (.agg ⟨vx⟩) (.agg ⟨vy⟩)=some (.bool q))(hx:un g (S.get C x)= .agg xs:=by first|exact rfl|exact cH)(hy:un g (S.get C y)= .agg ys:=by first|exact rfl|exact cH)(h1:jL xs=some vx:=by exact rfl)(h2:jL ys=some vy:=by exact rfl):bP C f call S g ⟨some d, .binOp op T x y dc,ty,pos,bg,bM⟩=some ⟨[(d, .val (.bool q))],[],[]⟩:=pN hx hy (by simp[nE,h1]) (by simp[nE,h2]) hb rfl
theorem jb{p:Bool}(hx:un g (S.get C x)= .val (.bool p):=by first|exact rfl|exact cH):bP C f call S g ⟨some d, .unOp .not T x,ty,pos,bg,bM⟩=some ⟨[(d, .val (.bool !p))],[],[]⟩:=by show zu C _ .not (un g (S.get C x))=_;rw[hx];rfl
theorem aki{op:UnOp}{fq oT:Value}(hb:Hv C.P op fq=some oT)(hs:eS oT=true)(hx:un g (S.get C x)= .val fq:=by first|exact rfl|exact cH):bP C f call S g ⟨some d, .unOp op T x,ty,pos,bg,bM⟩=some ⟨[(d, .val oT)],[],[]⟩:=by show zu C _ op (un g (S.get C x))=_;rw[hx];simp[hb,hs]
theorem akc{fq oT:Value}(hb:Iz C.P T dc fq=some oT)(hx:un g (S.get C x)= .val fq:=by first|exact rfl|exact cH)(hs:eS oT=true:=by exact rfl)(hnb:w9 C T dc=false:=by first|rfl|decide):bP C f call S g ⟨some d, .convert T dc x,ty,pos,bg,bM⟩=some ⟨[(d, .val oT)],[],[]⟩:=by show vn C _ T dc (un g (S.get C x))=_;rw[hx,aep hnb];simp[hb,hs]
theorem cw{p q r:Bool}(hx:un g (S.get C x)= .val (.bool p):=by first|exact rfl|exact cH)(hy:un (g&&p) (S.get C y)= .val (.bool q):=by first|exact rfl|exact cH)(hz:un (g&& !p) (S.get C z)= .val (.bool r):=by first|exact rfl|exact cH):bP C f call S g ⟨some d, .pick x y z,ty,pos,bg,bM⟩=some ⟨[(d, .val (.bool (if p then q else r)))],[],[]⟩:=by show xm _ (un g (S.get C x)) (un (g&&ou (un g (S.get C x))) (S.get C y)) (un (g&& !ou (un g (S.get C x))) (S.get C z))=_;rw[hx];simp only[ou];rw[hy,hz];rfl
theorem dx{q:Bool}(hx:un g (S.get C x)= .val (.bool true):=by exact rfl)(hy:un (g&&true) (S.get C y)= .val (.bool q):=by first|exact rfl|exact cH):bP C f call S g ⟨some d, .pick x y z,ty,pos,bg,bM⟩=some ⟨[(d, .val (.bool q))],[],[]⟩:=by show xm _ (un g (S.get C x)) (un (g&&ou (un g (S.get C x))) (S.get C y)) (un (g&& !ou (un g (S.get C x))) (S.get C z))=_;rw[hx];simp only[ou];rw[hy];generalize un (g&& !true) (S.get C z)=w;cases w with|val v=>(cases v<;>rfl)|_=>rfl
theorem cl{q:Bool}(hx:un g (S.get C x)= .val (.bool false):=by exact rfl)(hz:un (g&&true) (S.get C z)= .val (.bool q):=by first|exact rfl|exact cH):bP C f call S g ⟨some d, .pick x y z,ty,pos,bg,bM⟩=some ⟨[(d, .val (.bool q))],[],[]⟩:=by show xm _ (un g (S.get C x)) (un (g&&ou (un g (S.get C x))) (S.get C y)) (un (g&& !ou (un g (S.get C x))) (S.get C z))=_;rw[hx];simp only[ou,Bool.not_false];rw[hz];generalize un (g&&false) (S.get C y)=w;cases w with|val v=>(cases v<;>rfl)|_=>rfl
/-! ### Memory that does not change -/
theorem vZ{bb:Bool}{m:Nat}{cs cs':List U}[ha:eD C T bb m](hin:(C.fX f).contains d=true:=by exact rfl)(hx:un g (S.get C x)=v:=by exact gt)(hc:qY bb v=some cs:=by exact rfl)(hz:mG cs=cs':=by exact spine)(hi:fI cs'=true:=by exact rfl):bP C f call S g ⟨some d, .box T x,ty,pos,bg,bM⟩=some ⟨[(d, .bx cs')],[],[]⟩:=by show sn C f S _ T (un g (S.get C x))=_;simp only[sn,ha.mm,hx,hc,fA,hin,hz,hi,Pi,if_true];rfl
theorem bF{m:Nat}{cells cs:List U}[ha:eD C T false m](hx:un g (S.get C x)= .bx cells:=by first|exact rfl|exact cH)(hm:m=1:=by exact rfl)(hv:cells=v::cs:=by exact rfl):bP C f call S g ⟨some d, .load T x,ty,pos,bg,bM⟩=some ⟨[(d,v)],[],[]⟩:=by show mV C S _ T (un g (S.get C x))=_;subst hm hv;simp[mV,ha.mm,ha.sz,hx,kn]
theorem kT{m:Nat}{cells cs:List U}[ha:eD C T true m](hx:un g (S.get C x)= .bx cells:=by first|exact rfl|exact cH)(hl:Ha m cells.length=true:=by exact rfl)(hv:cells.take m=cs:=by exact spine):bP C f call S g ⟨some d, .load T x,ty,pos,bg,bM⟩=some ⟨[(d, .agg cs)],[],[]⟩:=by show mV C S _ T (un g (S.get C x))=_;have hl':m<=cells.length:=Hc hl;simp[mV,ha.mm,ha.sz,hx,hl',hv,kn]
theorem bT{i off m:Nat}{bb:Bool}{cells:List U}[hf:Fd C T i off m bb](hx:un g (S.get C x)= .bx cells:=by first|exact rfl|exact cH)(h0:Do 0 m=true:=by exact rfl)(hl:Ha off cells.length=true:=by exact rfl)(hz:(C.fX f).contains d=false:=by exact rfl):bP C f call S g ⟨some d, .fieldAddr T x i,ty,pos,bg,bM⟩=some ⟨[(d, .bx (cells.drop off))],[],[]⟩:=by show xj C f _ T i (un g (S.get C x))=_;have hl':off<=cells.length:=Hc hl;have h0':0<m:=of_decide_eq_true (sd h0);simp only[xj,hf.fd,hx,fA,hz];rw[if_pos ⟨h0',hl'⟩];rfl
theorem nW{i off m:Nat}{cells cs:List U}[hf:Fd C T i off m false](hx:un g (S.get C x)= .agg cells:=by first|exact rfl|exact cH)(hm:m=1:=by exact rfl)(hv:cells.drop off=v::cs:=by exact rfl)(hl:Ha (off+1) cells.length=true:=by exact rfl):bP C f call S g ⟨some d, .field T x i,ty,pos,bg,bM⟩=some ⟨[(d,v)],[],[]⟩:=by show BS C _ T i (un g (S.get C x))=_;subst hm;have hl':off+1<=cells.length:=Hc hl;simp[BS,hf.fd,hx,hl',hv,kn]
theorem nq{e:TypeId}{m:Nat}{bb:Bool}{α:Type}{c:α->List U}{q:List α}{i:Int}{r:α}(hi:idx q i=some r)[hu:eP C T (.slice e)][hs:eD C e bb m](hx:un g (S.get C x)= .sl (q.map c):=by first|exact rfl|exact cH)(hy:un g (S.get C y)= .val (.int k i):=by first|exact rfl|exact cH)(h0:Do 0 m=true:=by exact rfl)(hr:(c r).length=m:=by exact rfl):bP C f call S g ⟨some d, .indexAddr T x y,ty,pos,bg,bM⟩=some ⟨[(d, .bx (c r))],[],[]⟩:=by show qg C S _ T (un g (S.get C x)) (e5 (un g (S.get C y)))=_;have h0':0<m:=of_decide_eq_true (sd h0);have h1:=aib (c:=c) hi;unfold idx at h1;split at h1;·{rename_i hp;simp only[hx,hy,e5,qg,hu.ul,hs.sz,if_pos hp,h1,AC];simp[hr,h0']};·cases h1
def dP(s:ByteArray)(i:Int):Option UInt8:=if 0<=i then s[i.toNat]? else none
theorem e6{s:ByteArray}{i:Int}{r:UInt8}(hi:dP s i=some r)[hu:eP C T .string](hx:un g (S.get C x)= .val (.string s):=by first|exact rfl|exact cH)(hy:un g (S.get C y)= .val (.int k i):=by first|exact rfl|exact cH):bP C f call S g ⟨some d, .index T x y,ty,pos,bg,bM⟩=some ⟨[(d, .val (.int .u8 r.toNat))],[],[]⟩:=by show xk C _ T (un g (S.get C x)) (e5 (un g (S.get C y)))=_;unfold dP at hi;split at hi;·{rename_i hp;simp only[hx,hy,e5,xk,hu.ul,if_pos hp,hi,AC];rfl};·cases hi
section
variable{e:TypeId}{xs:Array Operand}{ts:Array TypeId}{T:TypeId}
theorem gz{α:Type}{c:α->List U}{q:List α}(hx:un g (S.get C x)= .sl (q.map c):=by first|exact rfl|exact cH)[hu:eP C T (.slice e)]:bP C f call S g ⟨some d, .call ⟨.builtin .len,⟨[x]⟩,⟨[T]⟩⟩,ty,pos,bg,bM⟩=some ⟨[(d, .val (.int .i64 q.length))],[],[]⟩:=by show tT C _ _ ([x].map fun x=>un g (S.get C x))=_;simp[hx,tT,hu.ul,FT,FU,xp]
theorem x4{id:Id}{off m m':Nat}(hx:un g (S.get C x)= .rs id off m':=by first|exact rfl|exact cH)(hm:m'=m:=by first|exact List.length_map _|exact rfl)[hu:eP C T (.slice e)]:bP C f call S g ⟨some d, .call ⟨.builtin .len,⟨[x]⟩,⟨[T]⟩⟩,ty,pos,bg,bM⟩=some ⟨[(d, .val (.int .i64 m))],[],[]⟩:=by show tT C _ _ ([x].map fun x=>un g (S.get C x))=_;simp[hx,tT,hu.ul,FT,FU,xp,hm]
theorem ja{s:ByteArray}(hx:un g (S.get C x)= .val (.string s):=by first|exact rfl|exact cH)[hu:eP C T .string]:bP C f call S g ⟨some d, .call ⟨.builtin .len,⟨[x]⟩,⟨[T]⟩⟩,ty,pos,bg,bM⟩=some ⟨[(d, .val (.int .i64 s.size))],[],[]⟩:=by show tT C _ _ ([x].map fun x=>un g (S.get C x))=_;simp[hx,tT,hu.ul,FT,xp]
end
theorem Wm:([]:List (Nat×Operand)).map (fun p=>(p.1,un g (S.get C p.2)))=[]:=rfl
theorem al2{i:Nat}{l:List (Nat×Operand)}{l':List (Nat×U)}(hx:un g (S.get C x)=v)(k:l.map (fun p=>(p.1,un g (S.get C p.2)))=l'):((i,x)::l).map (fun p=>(p.1,un g (S.get C p.2)))=(i,v)::l':=by simp[hx,k]
theorem Kg{l:List (Nat×Operand)}{l':List (Nat×U)}(h:l.map (fun p=>(p.1,un g (S.get C p.2)))=l':=by repeat(first|exact Wm|(apply al2;exact gt))):l.map (fun p=>(p.1,un g (S.get C p.2)))=l':=h
theorem eJ{p:List (Nat×Operand)}{hJ cs cs0:List U}{pl:List (Nat×Nat×Bool)}{ps:List (Nat×U)}[hz:mQ C T hJ][hp:Pl C T pl](hq:(p.map fun p=>(p.1,un g (S.get C p.2)))=ps:=by exact Kg)(hf:zv pl hJ ps=some cs0:=by exact rfl)(hc:cs0=cs:=by exact spine)(mD:C.yS f d=[]:=by exact rfl):bP C f call S g ⟨some d, .build T ⟨p⟩,ty,pos,bg,bM⟩=some ⟨[(d, .agg cs)],[],[]⟩:=by show xh C f _ T (p.map fun p=>(p.1,un g (S.get C p.2)))=_;rw[hq];simp[xh,hz.hJ,hp.pl,hf,hc,HD,mD,yT]
theorem ko{p:List (Nat×Operand)}{hJ Ye cs cs0:List U}{l:List Nat}{pl:List (Nat×Nat×Bool)}{ps:List (Nat×U)}[hz:mQ C T hJ][hp:Pl C T pl](mD:C.yS f d=l:=by exact rfl)(Cn:yT l hJ=Ye:=by exact rfl)(hq:(p.map fun p=>(p.1,un g (S.get C p.2)))=ps:=by exact Kg)(hf:zv pl Ye ps=some cs0:=by exact rfl)(hc:cs0=cs:=by exact spine):bP C f call S g ⟨some d, .build T ⟨p⟩,ty,pos,bg,bM⟩=some ⟨[(d, .agg cs)],[],[]⟩:=by subst Cn;show xh C f _ T (p.map fun p=>(p.1,un g (S.get C p.2)))=_;rw[hq];simp[xh,hz.hJ,hp.pl,hf,hc,HD,mD]
theorem CO{ef:Fn}{fs cs:Array Operand}{fa fb:List U}(ha:(fs.toList.map fun x=>un g (S.get C x))=fa:=by exact spine)(hb:(cs.toList.map fun x=>un g (S.get C x))=fb:=by exact spine):bP C f call S g ⟨some d, .makeFunc ef fs cs,ty,pos,bg,bM⟩=some ⟨[(d, .fn ef fa fb)],[],[]⟩:=by subst ha hb;rfl
theorem eV{vs:List U}{i:Nat}(hx:un g (S.get C x)= .aI vs:=by first|exact rfl|exact cH)(hi:vs[i]? =some v:=by exact rfl):bP C f call S g ⟨some d, .extract x i,ty,pos,bg,bM⟩=some ⟨[(d,v)],[],[]⟩:=by show BR _ (un g (S.get C x)) i=_;rw[hx];simp[BR,hi]
theorem eK(hx:un g (S.get C x)=v:=by exact gt)(hv:(match v with| .bx _| .mp _ _ _| .fn (.func _) _ _=>true|_=>false)=true:=by exact rfl):bP C f call S g ⟨some d, .nilCheck x,ty,pos,bg,bM⟩=some ⟨[(d,v)],[],[]⟩:=by show EF _ (un g (S.get C x))=_;rw[hx];cases v with|fn ef a b=>(cases ef<;>first|rfl|cases hv)|bx _=>(rfl)|mp _ _ _=>(rfl)|_=>cases hv
theorem aju{P:Program}{ts:Array TypeId}{k:IntKind}{a b:Int}:JM P ts ty [.int k a, .int k b]=some (.int k (max a b)):=by have e:(if b>a then b else a)=max a b:=by{omega};simp[JM,Builtin.max_,Builtin.max2,dG,List.foldlM,bind,Sem.bind,pure,e]
theorem ajw{P:Program}{ts:Array TypeId}{k:IntKind}{a b:Int}:JN P ts ty [.int k a, .int k b]=some (.int k (min a b)):=by have e:(if b<a then b else a)=min a b:=by{omega};simp[JN,Builtin.min_,Builtin.min2,dG,List.foldlM,bind,Sem.bind,pure,e]
theorem OG{k:IntKind}{a b:Int}{ts:Array TypeId}(hx:un g (S.get C x)= .val (.int k a):=by first|exact rfl|exact cH)(hy:un g (S.get C y)= .val (.int k b):=by first|exact rfl|exact cH):bP C f call S g ⟨some d, .call ⟨.builtin .max,⟨[x,y]⟩,ts⟩,ty,pos,bg,bM⟩=some ⟨[(d, .val (.int k (max a b)))],[],[]⟩:=by show(match jL ([x,y].map fun x=>un g (S.get C x))with|some vs=>nA _ (JM C.P ts ty vs)|none=>none)=_;simp only[H0,H1,hx,hy,jL,Hb,aju];rfl
theorem VJ{k:IntKind}{a b:Int}{ts:Array TypeId}(hx:un g (S.get C x)= .val (.int k a):=by first|exact rfl|exact cH)(hy:un g (S.get C y)= .val (.int k b):=by first|exact rfl|exact cH):bP C f call S g ⟨some d, .call ⟨.builtin .min,⟨[x,y]⟩,ts⟩,ty,pos,bg,bM⟩=some ⟨[(d, .val (.int k (min a b)))],[],[]⟩:=by show(match jL ([x,y].map fun x=>un g (S.get C x))with|some vs=>nA _ (JN C.P ts ty vs)|none=>none)=_;simp only[H0,H1,hx,hy,jL,Hb,ajw];rfl
/-! ### Parts of slices and strings -/
def slc{α:Type}(l:List α)(lo hi:Option Int):Option (List α):=(bounds (lo.map some) (hi.map some) l.length).map fun p=>(l.take p.2).drop p.1
def fG(s:ByteArray)(lo hi:Option Int):Option ByteArray:=(bounds (lo.map some) (hi.map some) s.size).map fun p=>s.extract p.1 p.2
theorem Io:(none.map fun y=>e5 (un g (S.get C y)))=(none:Option Int).map some:=rfl
theorem Ip{n:Int}(h:un g (S.get C y)= .val (.int k n):=by first|exact rfl|exact cH):((some y).map fun y=>e5 (un g (S.get C y)))=(some n).map some:=by show some (e5 (un g (S.get C y)))=_;rw[h];rfl
theorem D8{α:Type}{c:α->List U}{q:List α}{m:Nat}(hc:∀x,(c x).length=m):(q.map c).all (·.length==m)=true:=by simp[hc]
theorem akh{e:TypeId}{α:Type}{c:α->List U}{q r:List α}{lo hi:Option Operand}{lo' hi':Option Int}{m:Nat}{bb:Bool}(hr:slc q lo' hi'=some r)[hu:eP C T (.slice e)][hs:eD C e bb m](hx:un g (S.get C x)= .sl (q.map c):=by first|exact rfl|exact cH)(h1:(lo.map fun y=>e5 (un g (S.get C y)))=lo'.map some:=by first|exact Io|exact Ip)(h2:(hi.map fun y=>e5 (un g (S.get C y)))=hi'.map some:=by first|exact Io|exact Ip)(h0:Do 0 m=true:=by exact rfl)(hl:∀x,(c x).length=m:=by exact fun _=>rfl):bP C f call S g ⟨some d, .slice T x lo hi none,ty,pos,bg,bM⟩=some ⟨[(d, .sl (r.map c))],[],[]⟩:=by unfold slc at hr;obtain⟨p,hp,rfl⟩:=Option.map_eq_some_iff.1 hr;show su C S _ T (un g (S.get C x)) _ _=_;have h0':0<m:=of_decide_eq_true (sd h0);rw[hx];simp only[su,hu.ul,hs.sz,h1,h2,List.length_map,hp,AC];rw[if_pos ⟨h0',D8 hl⟩];simp[ret,put]
theorem nr{s r:ByteArray}{lo hi:Option Operand}{lo' hi':Option Int}(hr:fG s lo' hi'=some r)[hu:eP C T .string](hx:un g (S.get C x)= .val (.string s):=by first|exact rfl|exact cH)(h1:(lo.map fun y=>e5 (un g (S.get C y)))=lo'.map some:=by first|exact Io|exact Ip)(h2:(hi.map fun y=>e5 (un g (S.get C y)))=hi'.map some:=by first|exact Io|exact Ip):bP C f call S g ⟨some d, .slice T x lo hi none,ty,pos,bg,bM⟩=some ⟨[(d, .val (.string r))],[],[]⟩:=by show su C S _ T (un g (S.get C x)) (lo.map fun y=>e5 (un g (S.get C y))) (hi.map fun y=>e5 (un g (S.get C y)))=_;unfold fG at hr;obtain⟨p,hp,rfl⟩:=Option.map_eq_some_iff.1 hr;rw[hx,h1,h2];simp only[su,hu.ul,hp,AC];rfl
end
open Go
theorem aeh{t:TypeId}(e:cz):gy (iI t e)=true:=by cases e<;>rfl
theorem afD{t:TypeId}{e:cz}:ey (iI t e)=iI t e:=by cases e<;>rfl
theorem UC{t:TypeId}{e:cz}{p:Id}:imp p (iI t e)=(iI t e,[]):=by cases e<;>rfl
theorem aij{t:TypeId}{e:cz}{p:Id}{j:Nat}:fJ p j [iI t e]=([iI t e],[]):=by cases e<;>rfl
/-! ### Owned cells become objects -/
section
variable{α:Type}{c:α->List U}{q:List α}{p:Id}{j:Nat}{l l0 l':List U}{v v':U}{wr:List (Id×Option Rows)}{rows:Rows}
theorem ao1:bV p j []=([],[]):=rfl
theorem ao0(hl:l=v::l0)(hv:bV p j [v]=([v],[]))(k:bV p (j+1) l0=(l',wr)):bV p j l=(v::l',wr):=by subst hl;cases v<;>simp_all[bV]
theorem ao2{m:Nat}(hl:l= .own (q.map c) m::l0)(k:bV p (j+1) l0=(l',wr)):bV p j l=(.rs (j::p) 0 m::l',(j::p,some (q.map c))::wr):=by subst hl;simp[bV,k]
theorem Bc(h:bV p j l=(l',wr):=by repeat'(first|exact ao1|(apply ao0;exact rfl;(first|exact rfl|exact aur|exact XW))|(apply ao2;exact rfl)|(apply aus;exact rfl)|(apply aut;exact rfl))):bV p j l=(l',wr):=h
theorem aip{m:Nat}:imp p (.own (q.map c) m)=(.rs p 0 m,[(p,some (q.map c))]):=by simp[imp]
theorem aio(h:bV p 0 l=(l',wr)):imp p (.agg l)=(.agg l',wr):=by simp[imp,h]
theorem aiq(h:bV p 0 l=(l',wr)):imp p (.c7 l)=(.mp p 0 0,(p,some [l'])::wr):=by simp[imp,h]
theorem ail:fJ p j []=([],[]):=rfl
theorem aik(hl:l=v::l0)(hv:fJ p j [v]=([v],[]))(k:fJ p (j+1) l0=(l',wr)):fJ p j l=(v::l',wr):=by subst hl;cases v with|own rows m=>(simp[fJ]at hv)|c7 cells=>(simp[fJ]at hv)|fh rows=>(simp[fJ]at hv)|agg cs=>(simp only[fJ,PP,Prod.mk.injEq,List.cons.injEq,U.agg.injEq,and_true]at hv;simp[fJ,k,hv.1,hv.2])|aI vs=>(simp[fJ]at hv)|_=>simp[fJ,k]
theorem aii{w1 w2:List (Id×Option Rows)}{a a':List U}(hl:l= .agg a::l0)(h:bV (j::p) 0 a=(a',w1))(k:fJ p (j+1) l0=(l',w2)):fJ p j l=(.agg a'::l',w1++w2):=by subst hl;simp[fJ,k,h]
theorem ais(h:fJ p 0 l=(l',wr)):imp p (.aI l)=(.aI l',wr):=by simp[imp,h]
theorem Co(h:imp p v=(v',wr):=by first|exact(rfl:imp _ (.val _)=(.val _,[]))|exact(rfl:imp _ (.sl _)=(.sl _,[]))|exact UC|exact air|exact aip|exact aru|exact arv|(apply aio;exact Bc)|(apply aiq;exact Bc)|(apply ais;repeat'(first|exact ail|(apply aik;exact rfl;(first|exact rfl|exact aij|exact art))|(apply ars;exact rfl)|(apply arq;exact rfl)|(apply aii;exact rfl;exact Bc)))|exact rfl):imp p v=(v',wr):=h
theorem ajz{n:Nat}{vs:List U}:bq n [] vs=⟨n,fun _=> .aU,fun _=>none⟩:=rfl
theorem ajy{n s:Nat}{t:Nat->U}{h:Id->Option (Option Rows)}{l:List Nat}{vs:List U}(hi:imp [s] v=(v,[]))(k:bq n l vs=⟨n,t,h⟩):bq n (s::l) (v::vs)=⟨n,au t s v,h⟩:=by simp[bq,k,hi,bl]
theorem ajx{n s:Nat}{t:Nat->U}{h:Id->Option (Option Rows)}{l:List Nat}{vs:List U}(hi:imp [s] v=(v',wr))(k:bq n l vs=⟨n,t,h⟩):bq n (s::l) (v::vs)=⟨n,au t s v',bl h wr⟩:=by simp[bq,k,hi]
theorem Oo{n:Nat}{t:Nat->U}{h:Id->Option (Option Rows)}{l:List Nat}{vs:List U}(k:bq n l vs=⟨n,t,h⟩:=by repeat'(first|exact ajz|(apply ajy;first|exact rfl|exact UC|exact air)|(apply ajx;exact Co))):bq n l vs=⟨n,t,h⟩:=k
end
section
variable{C:aE}{f:FuncId}{call:gF}{c:Code}{Q:Exit×ai->Prop}{n:Nat}{t:Nat->U}{h:Id->Option (Option Rows)}{l:List Nat}{vs:List U}
theorem mk(k:W C f call c ⟨n,t,h⟩ Q)(hm:bq n l vs=⟨n,t,h⟩:=by exact Oo):W C f call c (bq n l vs) Q:=by rw[hm];exact k
theorem n5{e:Exit}(k:Q (e,⟨n,t,h⟩))(hm:bq n l vs=⟨n,t,h⟩:=by exact Oo):Q (e,bq n l vs):=by rw[hm];exact k
end
/-! ### Packing -/
def Sw{α:Type}(a b:List α):List α:=b.take (min b.length a.length)++a.drop (min b.length a.length)
theorem LU{α:Type}(a b:List α):(Sw a b).length=a.length:=by unfold Sw;rw[List.length_append,List.length_take,H4];omega
section
variable{L:Id->Option (Option Rows)}{n:Nat}{α:Type}{c:α->List U}{q:List α}{id:Id}{cs cs':List U}{ids is:List Id}{x v:U}
theorem xo [hc:qN c](q:List α):e4 (q.map c)=true:=aeV c q hc.fl
theorem xR{m m':Nat}(h:m=m':=by first|exact rfl|exact List.length_map _|(first|(with_reducible assumption)|assumption)|(symm;(first|(with_reducible assumption)|assumption))|(simp only[List.length_map,List.length_set,LU];done)|(simp only[List.length_map,List.length_set,LU];first|(first|(with_reducible assumption)|assumption)|(symm;(first|(with_reducible assumption)|assumption)))|(simp only[List.length_map,List.length_set,LU, *];done)):m=m':=h
theorem alR{y:U×List Id}:∀{a:U},flat a=true->pk L (n+1) a=some y->y=(a,[]):=by intro a hf h;cases a with|agg cs=>(simp only[flat]at hf;simp[pk,jV,hf]at h;exact h.symm)|aI cs=>(simp only[flat]at hf;simp[pk,jV,hf]at h;exact h.symm)|own rs m=>(simp only[flat]at hf;simp[pk,hf]at h;exact h.symm)|c7 cs=>(simp only[flat]at hf;simp[pk,hf]at h;exact h.symm)|fn k a b=>(simp only[pk]at h;split at h;·{simpa using h.symm};·cases h)|rs _ _ _=>(simp[flat]at hf)|mp _ _ _=>(simp[flat]at hf)|mr _=>(simp[flat]at hf)|dR _ _=>(simp[flat]at hf)|cB=>(simp[flat]at hf)|_=>simp[pk]at h;exact h.symm
theorem Tn:∀{cs:List U}{y:List U×List Id},dF cs=true->fc (pk L (n+1)) cs=some y->y=(cs,[])|[],y,_,h=>by{simp[fc]at h;exact h.symm}|c::cs,y,hf,h=>by simp only[dF,GT]at hf;simp only[fc,Hd,PQ]at h;obtain⟨u,hu,v,hv,rfl⟩:=h;obtain rfl:=alR hf.1 hu;obtain rfl:=Tn hf.2 hv;rfl
theorem Wb{y:List U×List Id}(h:fc (pk L (n+1)) cs=some y):jV (pk L (n+1)) cs=some y:=by unfold jV;split;·{rename_i hf;rw[Tn hf h]};·exact h
theorem alQ{w:Value}(hx:x= .val w:=by exact rfl):pk L (n+1) x=some (.val w,[]):=by rw[hx];rfl
theorem alP{r:Rows}(hx:x= .sl r:=by exact rfl):pk L (n+1) x=some (.sl r,[]):=by rw[hx];rfl
theorem alN{r:List U}(hx:x= .bx r:=by exact rfl):pk L (n+1) x=some (.bx r,[]):=by rw[hx];rfl
theorem alI{t:TypeId}{e:cz}(hx:x=iI t e:=by first|exact rfl|exact KJ):pk L (n+1) x=some (iI t e,[]):=by rw[hx];cases e<;>rfl
theorem alM(hx:x= .cB:=by exact rfl):pk L (n+1) x=some (.own [] 0,[]):=by rw[hx];rfl
theorem alO{m:Nat}[hc:qN c](hx:x= .rs id 0 m:=by exact rfl)(hh:L id=some (some (q.map c)):=by exact rfl)(hl:m=q.length:=by exact xR):pk L (n+1) x=some (.own (q.map c) q.length,[id]):=by rw[hx,hl];exact alS hh (by simp) (xo q)
theorem alH(hx:x= .agg cs:=by exact rfl)(hf:dF cs=true:=by exact rfl):pk L (n+1) x=some (.agg cs,[]):=by rw[hx];simp[pk,jV,hf]
theorem alG(hx:x= .agg cs)(h:fc (pk L (n+1)) cs=some (cs',ids)):pk L (n+2) x=some (.agg cs',ids):=by rw[hx,show pk L (n+2) (.agg cs)=(jV (pk L (n+1)) cs).map fun x=>(.agg x.1,x.2)from rfl,Wb h];rfl
theorem alL(hx:x= .mp id 0 0:=by exact rfl)(hh:L id=some (some [cs]):=by exact rfl)(hf:dF cs=true:=by exact rfl):pk L (n+1) x=some (.c7 cs,[id]):=by rw[hx];simp[pk,jV,hh,hf]
theorem alK(hx:x= .mp id 0 0)(hh:L id=some (some [cs]))(h:fc (pk L (n+1)) cs=some (cs',ids)):pk L (n+2) x=some (.c7 cs',id::ids):=by have e:pk L (n+2) (.mp id 0 0)=match L id with|some (some [cs])=>if 0=0∧0=0 then(jV (pk L (n+1)) cs).map fun x=>(.c7 x.1,id::x.2)else none|_=>none:=rfl;rw[hx,e,hh];simp only[and_self,if_true,Wb h];rfl
theorem alJ{k:Fn}{a b:List U}(hx:x= .fn k a b:=by exact rfl)(hf:(fI a&&fI b)=true:=by exact rfl):pk L (n+1) x=some (.fn k a b,[]):=by rw[hx];simp only[GT]at hf;simp[pk,hf.1,hf.2]
theorem EP{p:U->Option (U×List Id)}(hx:cs=[]:=by exact rfl):fc p cs=some ([],[]):=by rw[hx];rfl
theorem EO{p:U->Option (U×List Id)}{a b:U}{as bs:List U}{i1 i2:List Id}(hx:cs=a::as)(h:p a=some (b,i1))(k:fc p as=some (bs,i2)):fc p cs=some (b::bs,i1++i2):=by subst hx;simp[fc,h,k]
theorem alV{t:Nat->U}:kX L t []=some ([],[]):=rfl
theorem alU{t:Nat->U}{s:Nat}{sl:List Nat}{vs:List U}(h1:pk L 9 (t s)=some (v,ids))(h2:kX L t sl=some (vs,is)):kX L t (s::sl)=some (v::vs,ids++is):=by rw[aln,h1,AC,h2];rfl
end
/-! ### One row of a list, open -/
section
variable{α:Type}{c c':α->List U}{q:List α}{k:Nat}{x x':α}{r r':List U}
end
/-! ### Packing -/
section
variable{L:Id->Option (Option Rows)}{n m:Nat}{α:Type}{c c':α->List U}{q:List α}{k:Nat}{x x':α}{r r':List U}{id:Id}{ids:List Id}{v:U}
end
section
variable{L:Id->Option (Option Rows)}{n:Nat}{α:Type}{c:α->List U}{q:List α}{id:Id}{cs cs':List U}{ids is:List Id}{x v:U}
theorem n4{a:U}{y:Option (U×List Id)}(h:pk L n a=y:=by repeat'(first|exact alQ|exact alI|exact asw|exact ass|exact alP|exact alO|exact asy|(apply asB;exact rfl;exact rfl;exact rfl;(first|(with_reducible assumption)|assumption);exact xR;rotate_left;exact rfl)|(apply asA;exact rfl;exact rfl;exact rfl;(first|(with_reducible assumption)|assumption);exact ajn;rotate_left;exact rfl)|exact alH|exact alN|exact alM|exact ast|exact alL|exact asq|exact asx|exact asu|exact asD|exact alJ|exact asr|exact asv|exact asp|exact EP|(apply EO;exact rfl)|(apply alG;exact rfl)|(apply alK;exact rfl;exact rfl)|(apply asC;exact rfl)|(apply asz;exact rfl;exact rfl;exact rfl;exact rfl)|exact asT|(apply asS;exact rfl)|exact asn|(apply aso;exact rfl))):pk L n a=y:=h
theorem Kf{t:Nat->U}{sl:List Nat}{y:Option (List U×List Id)}(h:kX L t sl=y:=by repeat'(first|exact alV|(apply alU;exact n4))):kX L t sl=y:=h
theorem aK{o:Option (Bool×List Nat)}{slots:List Nat}{t:Nat->U}{vs:List U}(hk:o=some (false,slots):=by exact rfl)(hp:kX L t slots=some (vs,is):=by exact Kf)(hn:dV is=true:=by exact rfl):fH o ⟨n,t,L⟩=some (bq n slots vs):=by subst hk;show(kB ⟨n,t,L⟩ slots).map _=_;rw[amF,hp];simp[hn]
end
/-! ### The same with names kept -/
section
variable{n:Nat}{t t2:Nat->U}{h:Id->Option (Option Rows)}{slots r:List Nat}{l:List (Id×Id)}{hl y:List (Id×Rows)}{α:Type}{c:α->List U}{q:List α}
def eZ(n:Nat)(l:List (Nat×U))(h:List (Id×Rows)):ai:=⟨n,dL (fun _=> .aU) l,kQ h⟩
/-! Rows that are flat, cell by cell. -/
theorem Td{α:Type}{c:α->List U}{q:List α}{m:Nat}[hc:qN c]:flat (.own (q.map c) m)=true:=by simp[flat,xo]
theorem Ta{r cs:List U}{a:U}(e:r=a::cs)(h1:flat a=true)(h2:dF cs=true):dF r=true:=by subst e;simp[dF,h1,h2]
theorem aeK{rows:Rows}(e:rows=[]:=by exact rfl):e4 rows=true:=by subst e;rfl
theorem aeL{rows rs:Rows}{r:List U}(e:rows=r::rs)(h1:dF r=true)(h2:e4 rs=true):e4 rows=true:=by subst e;simp[e4,h1,h2]
theorem L9{rows:Rows}(k:e4 rows=true:=by(repeat'(first|exact xo _|exact aeK|(apply aeL;exact rfl)|exact aeI|(apply Ta;exact rfl)|exact rfl|exact aeF|exact aeJ|exact Td));first|done|fail):e4 rows=true:=k
theorem ajB:rB l t []=dL (fun _=> .aU) []:=rfl
theorem ajA{s:Nat}{v':U}{vs:List (Nat×U)}(he:fD l (t s)=v')(hr:rB l t r=dL (fun _=> .aU) vs):rB l t (s::r)=dL (fun _=> .aU) ((s,v')::vs):=by subst he;simp[rB,hr,dL]
theorem Py [hc:qN c]:oa l (q.map c)=some (q.map c):=by simp[oa,xo]
theorem PA{cs cs':List U}(hf:dF cs=false:=by exact rfl)(h:rR l cs=some cs':=by first|exact rfl|exact asX):oa l [cs]=some [cs']:=by simp[oa,e4,hf,Dh,h]
theorem Pz{rows:Rows}(hf:e4 rows=true:=by first|exact rfl|exact L9):oa l rows=some rows:=by simp[oa,hf]
end
section
variable{l:List (Id×Id)}{α:Type}{c:α->List U}{q:List α}{k:Nat}{x x':α}{r r':List U}
theorem amC{a:U}(h:flat a=true):yy l a=some a:=by cases a with|fn k as cs=>(simp only[yy];rw[if_pos (by simpa[flat]using h)])|rs _ _ _=>(simp[flat]at h)|mp _ _ _=>(simp[flat]at h)|mr _=>(simp[flat]at h)|cB=>(simp[flat]at h)|_=>simp only[yy,Dd];rw[if_pos h]
theorem GM:∀{as:List U},dF as=true->rR l as=some as|[],_=>rfl|a::as,h=>by simp only[dF,GT]at h;simp[rR,amC h.1,GM h.2]
end
section
variable{n:Nat}{t t2:Nat->U}{h:Id->Option (Option Rows)}{slots r:List Nat}{l:List (Id×Id)}{hl y:List (Id×Rows)}{α:Type}{c:α->List U}{q:List α}
theorem ahq{L:Id->Option (Option Rows)}:q6 L l []=some []:=rfl
theorem ahp{L:Id->Option (Option Rows)}{r:List (Id×Id)}{o k:Id}{rows bA:Rows}(h:L o=some (some rows))(hr:oa l rows=some bA)(hy:q6 L l r=some y):q6 L l ((o,k)::r)=some ((k,bA)::y):=by simp[q6,h,hr,hy]
theorem hnk{L:Id->Option (Option Rows)}{r:List (Id×Id)}(h:q6 L l r=some y:=by repeat'(first|exact ahq|(apply ahp;exact rfl;first|exact Py|exact as4 rfl|exact as6 (by(first|(with_reducible assumption)|assumption))|exact PA|exact Pz))):q6 L l r=some y:=h
theorem ajC{vs:List (Nat×U)}(h:rB l t slots=dL (fun _=> .aU) vs:=by repeat'(first|exact ajB|(apply ajA;first|exact rfl|exact as5))):rB l t slots=dL (fun _=> .aU) vs:=h
def aiC:U->Bool| .cB=>true|_=>false
theorem Vy{y:ai}(e:(⟨n,t,h⟩:ai)=y:=by exact rfl):lE [] ⟨n,t,h⟩=y:=e
theorem aj6{s:Nat}{sl:List Nat}{y:ai}(hs:aiC (t s)=false)(k:lE sl ⟨n,t,h⟩=y):lE (s::sl) ⟨n,t,h⟩=y:=by have e:sW ⟨n,t,h⟩ s=⟨n,t,h⟩:=by{simp only[sW];split;·{rename_i h1 _;rw[h1]at hs;cases hs};·rfl};rw[lE,e];exact k
theorem aj5{s:Nat}{sl:List Nat}{y:ai}(hs:t s= .cB)(hh:h [s,s]=none)(k:lE sl ⟨n,au t s (.rs [s,s] 0 0),au h [s,s] (some (some []))⟩=y):lE (s::sl) ⟨n,t,h⟩=y:=by have e:sW ⟨n,t,h⟩ s=⟨n,au t s (.rs [s,s] 0 0),au h [s,s] (some (some []))⟩:=by{simp only[sW,hs,hh]};rw[lE,e];exact k
theorem aj7{y:ai}(k:lE slots ⟨n,t,h⟩=y:=by repeat'(first|with_reducible exact Vy|(apply aj6;first|exact rfl|exact arF|exact arG)|(apply aj5;exact rfl;exact rfl)|exact Vy)):lE slots ⟨n,t,h⟩=y:=k
section
variable{keep:Id->Bool}{o:Id}{ol:List Id}{y0:Option ai}{rows bA:Rows}{ids:List Id}{r r':List U}{k:Nat}
theorem ade{α:Type}{g:α->Id}{y0:Option ai}(e:some (⟨n,t,h⟩:ai)=y0:=by exact rfl):kJ keep (List.map g []) ⟨n,t,h⟩=y0:=e
theorem ajH(e:(dV ids&& !ids.contains o)=true):(dV ids&& !ids.contains o)=true:=e
theorem ada(hh:h o=some (some rows))(hf:e4 rows=true)(k:kJ keep ol ⟨n,t,h⟩=y0):kJ keep (o::ol) ⟨n,t,h⟩=y0:=by have e:sg keep ⟨n,t,h⟩ o=some ⟨n,t,h⟩:=by{simp only[sg,hh,hf,if_true]};rw[kJ,e];exact k
theorem adi(hh:h o=some (some rows))(hf:e4 rows=false)(hc:fR (mS h keep) rows=some (bA,ids))(hn:(dV ids&& !ids.contains o)=true)(k:kJ keep ol ⟨n,t,bl h ((o,some bA)::ids.map fun i=>(i,none))⟩=y0):kJ keep (o::ol) ⟨n,t,h⟩=y0:=by have e:sg keep ⟨n,t,h⟩ o=some ⟨n,t,bl h ((o,some bA)::ids.map fun i=>(i,none))⟩:=by{simp only[sg,hh,hf,hc,hn,if_true];rfl};rw[kJ,e];exact k
theorem Sz(hf:dF r=false:=by exact rfl)(hc:fc (iV h keep) r=some (r',ids)):mS h keep r=some (r',ids):=by simp[mS,hf,hc]
theorem Tj{p:List U->Option (List U×List Id)}(e:rows=[]:=by exact rfl):fR p rows=some ([],[]):=by subst e;rfl
theorem Tl{p:List U->Option (List U×List Id)}{rs:Rows}{i1 i2:List Id}(e:rows=r::rs)(h1:p r=some (r',i1))(h2:fR p rs=some (bA,i2)):fR p rows=some (r'::bA,i1++i2):=by subst e;simp[fR,h1,h2]
theorem LH{i:Id}{off len:Nat}{x:U}(hx:x= .rs i off len:=by exact rfl)(hk:keep i=true:=by exact rfl):iV h keep x=some (.rs i off len,[]):=by subst hx;simp[iV,hk]
theorem LI{i:Id}{row off:Nat}{x:U}(hx:x= .mp i row off:=by exact rfl)(hk:keep i=true:=by exact rfl):iV h keep x=some (.mp i row off,[]):=by subst hx;simp[iV,hk]
theorem LK{i:Id}{off len:Nat}{x x':U}(hx:x= .rs i off len:=by exact rfl)(hk:keep i=false:=by exact rfl)(hp:pk h 8 (.rs i off len)=some (x',ids)):iV h keep x=some (x',ids):=by subst hx;simp[iV,hk,hp]
theorem LJ{x:U}(hx:x= .cB:=by exact rfl):iV h keep x=some (.own [] 0,[]):=by subst hx;rfl
theorem N7:∀{l:List U},dF l=true->Cy keep l=true|[],_=>rfl|a::l,hf=>by simp only[dF,GT]at hf;simp only[Cy,List.all_cons,GT];refine⟨?_,N7 hf.2⟩;cases a<;>first|exact hf.1|(simp[flat]at hf)
theorem Ep{x:U}(hf:flat x=true):iV h keep x=some (x,[]):=by cases x with|fn k as cs=>(simp only[flat,GT]at hf;simp only[iV];rw[if_pos (by simp[N7 hf.1,N7 hf.2])])|rs _ _ _=>(simp[flat]at hf)|mp _ _ _=>(simp[flat]at hf)|mr _=>(simp[flat]at hf)|cB=>(simp[flat]at hf)|_=>simp only[iV];rw[if_pos hf]
end
section
variable{α:Type}{c:α->List U}{q:List α}{k:Nat}{x x':α}{r r':List U}{ids:List Id}{keep:Id->Bool}{o:Id}{ol:List Id}{y0:Option ai}
end
theorem adk{keep:Id->Bool}{ol:List Id}{y0:Option ai}(k:kJ keep ol ⟨n,t,h⟩=y0:=by repeat'(first|with_reducible exact ap0|with_reducible exact ade|(apply ada;exact rfl;first|exact xo _|exact rfl|exact L9)|(apply ap1;exact rfl;exact rfl;(first|(with_reducible assumption)|assumption);exact inferInstance)|(apply adi;exact rfl;exact rfl)|exact Tj|(apply Tl;exact rfl)|exact adG|(apply Sz;exact rfl)|exact LH|exact LI|exact Si|exact LJ|(apply Sk;exact rfl;exact rfl;exact n4)|(apply LK;exact rfl;exact rfl;exact n4)|(apply Sj;exact rfl;exact rfl;exact n4)|(apply Ep;first|exact rfl|exact Tb|exact Te|exact Tc)|exact Sh|exact EP|(apply EO;exact rfl)|exact ajH rfl)):kJ keep ol ⟨n,t,h⟩=y0:=k
/-! Names, one by one. -/
def U1:U->Bool| .fn _ as cs=> !(dF as&&dF cs)| .rs _ _ _=>true| .mp _ _ _=>true| .mr _=>true| .agg _=>true|_=>false
section
variable{L:Id->Option (Option Rows)}{m j:Nat}{p i:Id}{acc acc' qc y l:List (Id×Id)}{a:U}{as cs eO:List U}{S:ai}{s:Nat}{slots:List Nat}
theorem adM(hx:eO=[])(e:acc=y):gi L m p j acc eO=y:=by subst hx;cases m<;>exact e
theorem adU(hx:eO=a::as)(hs:U1 a=false)(k:gi L m p (j+1) acc as=y):gi L (m+1) p j acc eO=y:=by subst hx;cases a with|fn f xs cs=>(simp only[U1,Bool.not_eq_false']at hs;simp only[gi,if_pos hs];exact k)|_=>first|exact k|cases hs
theorem Ox{i q:Id}(h:jT i=false)(h2:jT q=false):uv i q=q:=by simp[uv,h,h2]
theorem Oy{i q:Id}(h:jT i=true):uv i q=i:=by simp[uv,h]
variable{nm:Id}
theorem adS{o n:Nat}(hx:eO= .rs i o n::as)(hn:(hG acc i).isSome=false)(hm:uv i (j::p)=nm)(hl:acc++[(i,nm)]=acc')(k:gi L m p (j+1) acc' as=y):gi L (m+1) p j acc eO=y:=by subst hx hl hm;simp only[gi,hn];exact k
theorem adT{o n:Nat}(hx:eO= .rs i o n::as)(hn:(hG acc i).isSome=true)(k:gi L m p (j+1) acc as=y):gi L (m+1) p j acc eO=y:=by subst hx;simp only[gi,hn];exact k
theorem adP{o n:Nat}(hx:eO= .mp i o n::as)(hn:(hG acc i).isSome=false)(hh:L i=some (some [cs]))(hm:uv i (j::p)=nm)(hl:acc++[(i,nm)]=acc')(h1:gi L m (j::p) 0 acc' cs=qc)(k:gi L m p (j+1) qc as=y):gi L (m+1) p j acc eO=y:=by subst hx hl h1 hm;simp only[gi,hn,hh];exact k
theorem adQ{o n:Nat}(hx:eO= .mp i o n::as)(hn:(hG acc i).isSome=true)(k:gi L m p (j+1) acc as=y):gi L (m+1) p j acc eO=y:=by subst hx;simp only[gi,hn];exact k
theorem adK(hx:eO= .agg cs::as)(h1:gi L m (j::p) 0 acc cs=qc)(k:gi L m p (j+1) qc as=y):gi L (m+1) p j acc eO=y:=by subst hx h1;simp only[gi];exact k
theorem adO{f:Fn}{xs:List U}(hx:eO= .fn f xs cs::as)(hf:(dF xs&&dF cs)=false)(h1:gi L m (j::p) 0 acc (xs++cs)=qc)(k:gi L m p (j+1) qc as=y):gi L (m+1) p j acc eO=y:=by subst hx h1;simp only[gi,hf];exact k
theorem ajT(e:acc=l):H2 (fun acc s=>gi S.h 40 [s] 0 acc [S.t s]) acc []=l:=e
theorem ajS(h:gi S.h 40 [s] 0 acc [S.t s]=acc')(k:H2 (fun acc s=>gi S.h 40 [s] 0 acc [S.t s]) acc' slots=l):H2 (fun acc s=>gi S.h 40 [s] 0 acc [S.t s]) acc (s::slots)=l:=by subst h;exact k
theorem ajR{Xv:List Nat}(hs:slots=Xv)(h:H2 (fun acc s=>gi S.h 40 [s] 0 acc [S.t s]) [] Xv=l):names S slots=l:=by subst hs;exact h
theorem ajU(h:names S slots=l:=by((with_reducible apply ajR);exact spine);repeat'(first|((with_reducible apply ajT);exact rfl)|(with_reducible apply ajS)|((with_reducible apply adM);(with_reducible exact rfl);exact rfl)|((with_reducible apply adU);exact rfl;first|exact rfl|exact arP|exact arS)|((with_reducible apply adS);exact rfl;exact rfl;(first|exact Ox rfl rfl|exact Oy rfl|exact Vx rfl rfl spine);exact spine)|((with_reducible apply adT);exact rfl;exact rfl)|((with_reducible apply ap7);exact rfl;exact rfl;(first|exact Ox rfl rfl|exact Oy rfl|exact Vx rfl rfl spine);exact spine)|((with_reducible apply ap8);exact rfl;exact rfl)|((with_reducible apply adQ);exact rfl;exact rfl)|((with_reducible apply adP);exact rfl;exact rfl;exact rfl;(first|exact Ox rfl rfl|exact Oy rfl|exact Vx rfl rfl spine);exact spine)|((with_reducible apply adK);exact rfl)|((with_reducible apply adO);exact rfl;exact rfl))):names S slots=l:=h
end
theorem aj4{t0 t1:Nat->U}{h0 h1:Id->Option (Option Rows)}{vs:List (Nat×U)}(e0:lE slots ⟨n,t,h⟩=⟨n,t0,h0⟩:=by exact aj7)(hn:names ⟨n,t0,h0⟩ slots=l:=by first|exact ajU|exact spine)(e1:kJ (vU l) (l.map (·.1)) ⟨n,t0,h0⟩=some ⟨n,t1,h1⟩:=by exact adk)(hd:(dV (l.map (·.1))&&dV (l.map (·.2))&&l.all (fun x=> !jT x.2||x.1==x.2))=true:=by exact rfl)(hh:q6 h1 l l=some hl:=by exact hnk)(ht:rB l t1 slots=dL (fun _=> .aU) vs:=by exact ajC):norm ⟨n,t,h⟩ slots=some (eZ n vs hl):=by subst hn;simp only[norm,JV,e0,e1,AC,xZ,hd,if_true,hh,Hb,ht,eZ]
theorem cI{o:Option (Bool×List Nat)}{vs:List (Nat×U)}(hk:o=some (true,slots):=by exact rfl)(hm:norm ⟨n,t,h⟩ slots=some (eZ n vs hl):=by exact aj4):fH o ⟨n,t,h⟩=some (eZ n vs hl):=by subst hk;exact hm
end
section
variable{C:aE}{f:FuncId}{call:gF}{c:Code}{Q:Exit×ai->Prop}{n:Nat}{l:List (Nat×U)}{h:List (Id×Rows)}
theorem iD(k:W C f call c ⟨n,dL (fun _=> .aU) l,kQ h⟩ Q):W C f call c (eZ n l h) Q:=k
theorem yu{e:Exit}(k:Q (e,⟨n,dL (fun _=> .aU) l,kQ h⟩)):Q (e,eZ n l h):=k
end
section
variable{α:Type}{c c':α->List U}{q:List α}{as bs:List U}{L:Id->Option (Option Rows)}{n:Nat}
/-! Freezing -/
theorem afI [hc:HH c c']:ey (.own (q.map c) q.length)= .sl (q.map c'):=by have:lp (q.map c)=q.map c':=by{induction q with|nil=>(rfl)|cons x q ih=>simp[lp,hc.ey,ih]};simp only[ey,this];rw[H5 (by simp)]
theorem afC{a b:U}(h:ey a=b)(k:kN as=bs):kN (a::as)=b::bs:=by simp[kN,h,k]
theorem afB(h:kN as=bs):ey (.agg as)= .agg bs:=by simp[ey,h]
theorem afK(h:kN as=bs):ey (.aI as)= .aI bs:=by simp[ey,h]
theorem afJ(h:kN as=bs):ey (.c7 as)= .bx bs:=by simp[ey,h]
theorem EX{a b:U}(h:ey a=b:=by repeat'(first|exact(rfl:ey (.val _)= .val _)|exact afD|exact aqH|exact afI|exact aqG|exact(rfl:ey (.sl _)= .sl _)|apply afB|apply afK|apply afJ|exact(rfl:kN []=[])|apply afC|exact rfl)):ey a=b:=h
end
/-! ### Memory of one's own -/
def app{α:Type}(a b:List α):Option (List α):=if a.length+b.length<=4294967296 then some (a++b)else none
theorem RZ{α:Type}{a b r:List α}(h:app a b=some r):a.length+b.length<=4294967296∧r=a++b:=by unfold app at h;split at h;·{exact⟨‹_›,by simpa using h.symm⟩};·cases h
def ur{α:Type}(n:Int)(z:α):Option (List α):=if 0<=n∧n<=4294967296 then some (Hn n.toNat z)else none
theorem PC{α:Type}{c:α->List U}{q:List α}[hc:wQ c]:uG (q.map c)=true:=by simp only[uG,IH,Hm];exact fun x _=>hc.ce x
section
variable{C:aE}{f:FuncId}{call:gF}{S:ai}{g:Bool}
variable{d:Nat}{ty:TypeId}{pos:String}{bg:Array Edge}{bM:Option (Nat×Bool)}{v v':U}
variable{x y z:Operand}{k:IntKind}{a b:Int}{T dc:TypeId}
theorem eB{cs:List U}[hz:u6 C T cs](hn:S.h [d]=none:=by exact rfl)(mD:C.yS f d=[]:=by exact rfl):bP C f call S g ⟨some d, .alloc T,ty,pos,bg,bM⟩=some ⟨[(d, .mp [d] 0 0)],[],[([d],some [cs])]⟩:=by show vk C f S _ T=_;simp[vk,hz.Yg,hn,mD,yT]
theorem uw{bb:Bool}{m:Nat}{cs:List U}[ha:eD C T bb m](hin:(C.fX f).contains d=false:=by exact rfl)(hx:un g (S.get C x)=v:=by exact gt)(hc:qY bb v=some cs:=by exact rfl)(hn:S.h [d]=none:=by exact rfl):bP C f call S g ⟨some d, .box T x,ty,pos,bg,bM⟩=some ⟨[(d, .mp [d] 0 0)],[],[([d],some [cs])]⟩:=by show sn C f S _ T (un g (S.get C x))=_;simp only[sn,ha.mm,hx,hc,fA,hin,Ps,GE,if_false];rw[if_pos (UG hn)];rfl
theorem cQ{i off off' row m:Nat}{bb:Bool}{id:Id}[hf:Fd C T i off m bb](hx:un g (S.get C x)= .mp id row off':=by first|exact rfl|exact cH)(h0:Do 0 m=true:=by exact rfl):bP C f call S g ⟨some d, .fieldAddr T x i,ty,pos,bg,bM⟩=some ⟨[(d, .mp id row (off'+off))],[],[]⟩:=by show xj C f _ T i (un g (S.get C x))=_;have h0':0<m:=of_decide_eq_true (sd h0);simp[xj,hf.fd,hx,h0']
theorem Od{bb:Bool}{m row off:Nat}{id:Id}{rows:Rows}{r cs:List U}(ha:lU C T=some bb)(hs:iP C T=some m)(hx:un g (S.get C x)= .mp id row off)(hh:S.h id=some (some rows))(hr:rows[row]? =some r)(hl:Ha (off+m) r.length=true)(hc:bV [d] 0 ((r.drop off).take m)=(cs,[]))(hv:kn bb cs=some v):bP C f call S g ⟨some d, .load T x,ty,pos,bg,bM⟩=some ⟨[(d,v)],[id],[]⟩:=by show mV C S _ T (un g (S.get C x))=_;rw[hx];have hl':off+m<=r.length:=Hc hl;simp only[mV,ha,hs,hh,hr,AC,if_pos hl',jQ,hc,hv,List.isEmpty_nil,if_true,Hb];rfl
theorem ai3{bb:Bool}{m row off:Nat}{id:Id}{rows:Rows}{r cs:List U}{w:Id×Option Rows}{wr:List (Id×Option Rows)}(ha:lU C T=some bb)(hs:iP C T=some m)(hx:un g (S.get C x)= .mp id row off)(hh:S.h id=some (some rows))(hr:rows[row]? =some r)(hl:Ha (off+m) r.length=true)(hc:bV [d] 0 ((r.drop off).take m)=(cs,w::wr))(hf:fresh S.h (w::wr)=true)(hv:kn bb cs=some v):bP C f call S g ⟨some d, .load T x,ty,pos,bg,bM⟩=some ⟨[(d,v)],[id],(id,some (rows.set row (r.take off++cs++r.drop (off+m))))::w::wr⟩:=by show mV C S _ T (un g (S.get C x))=_;rw[hx];have hl':off+m<=r.length:=Hc hl;simp only[mV,ha,hs,hh,hr,AC,if_pos hl',jQ,hc,hv,Nm,GE,if_false,hf,if_true,Hb];rfl
theorem CP{m row off:Nat}{id:Id}{α:Type}{c:α->List U}{q:List α}{r:α}{cs:List U}(hr:q[row]? =some r)[ha:eD C T false m](hx:un g (S.get C x)= .mp id row off:=by first|exact rfl|exact cH)(hh:S.h id=some (some (q.map c)):=by exact rfl)(hm:m=1:=by exact rfl)(hv:(c r).drop off=v::cs:=by exact rfl)(hu:bV [d] 0 [v]=([v],[]):=by first|exact rfl|exact XW):bP C f call S g ⟨some d, .load T x,ty,pos,bg,bM⟩=some ⟨[(d,v)],[id],[]⟩:=by subst hm;refine Od (rows:=q.map c) (r:=c r) (cs:=[v]) ha.mm ha.sz hx hh (by simp[hr]) ?_ (by rw[hv];exact hu) rfl;have:=congrArg List.length hv;simp only[H4,QP]at this;apply QQ;omega
theorem dj{m off:Nat}{id:Id}{r cs:List U}[ha:eD C T false m](hx:un g (S.get C x)= .mp id 0 off:=by first|exact rfl|exact cH)(hh:S.h id=some (some [r]):=by exact rfl)(hm:m=1:=by exact rfl)(hv:r.drop off=v::cs:=by exact rfl)(hu:bV [d] 0 [v]=([v],[]):=by first|exact rfl|exact XW):bP C f call S g ⟨some d, .load T x,ty,pos,bg,bM⟩=some ⟨[(d,v)],[id],[]⟩:=by subst hm;refine Od (rows:=[r]) (r:=r) (cs:=[v]) ha.mm ha.sz hx hh rfl ?_ (by rw[hv];exact hu) rfl;have:=congrArg List.length hv;simp only[H4,QP]at this;apply QQ;omega
theorem lX{m off:Nat}{id:Id}{r cs cs0:List U}[ha:eD C T true m](hx:un g (S.get C x)= .mp id 0 off:=by first|exact rfl|exact cH)(hh:S.h id=some (some [r]):=by exact rfl)(hl:Ha (off+m) r.length=true:=by exact rfl)(hv:(r.drop off).take m=cs0:=by exact spine)(hu:bV [d] 0 cs0=(cs,[]):=by exact Bc):bP C f call S g ⟨some d, .load T x,ty,pos,bg,bM⟩=some ⟨[(d, .agg cs)],[id],[]⟩:=Od (rows:=[r]) (r:=r) ha.mm ha.sz hx hh rfl hl (by rw[hv];exact hu) rfl
theorem akd{m off:Nat}{id:Id}{r r' cs cs0:List U}{w:Id×Option Rows}{wr:List (Id×Option Rows)}[ha:eD C T true m](hx:un g (S.get C x)= .mp id 0 off:=by first|exact rfl|exact cH)(hh:S.h id=some (some [r]):=by exact rfl)(hl:Ha (off+m) r.length=true:=by exact rfl)(hv:(r.drop off).take m=cs0:=by exact spine)(hu:bV [d] 0 cs0=(cs,w::wr):=by exact Bc)(hq:r.take off++cs++r.drop (off+m)=r':=by exact spine)(hf:fresh S.h (w::wr)=true:=by exact rfl):bP C f call S g ⟨some d, .load T x,ty,pos,bg,bM⟩=some ⟨[(d, .agg cs)],[id],(id,some [r'])::w::wr⟩:=by subst hq;exact ai3 (rows:=[r]) (r:=r) ha.mm ha.sz hx hh rfl hl (by rw[hv];exact hu) hf rfl
def KE(L:List Nat):Operand->Bool| .tmp ta=>L.contains ta|_=>false
theorem Tw{a:Operand}(hin:KE (C.fX f) a=false):zy C f a=none:=by cases a with|tmp ta=>(simp only[KE]at hin;unfold zy;simp only;rw[if_neg (by rw[hin];simp)])|_=>rfl
theorem jc{bb:Bool}{m ta:Nat}{id:Id}{cs cs' r:List U}[ha:eD C T bb m](hin:(C.fX f).contains ta=true:=by exact rfl)(hx:un true (S.get C (.tmp ta))= .mp id 0 0:=by exact rfl)(hy:un true (S.get C y)=v:=by exact gt)(hc:qY bb v=some cs:=by exact rfl)(bU:cs.length=m:=by exact rfl)(hh:S.h id=some (some [r]):=by exact rfl)(hr:r.length=m:=by exact rfl)(hz:mG cs=cs':=by exact spine)(hi:fI cs'=true:=by exact rfl):bP C f call S true ⟨none, .store T (.tmp ta) y,ty,pos,bg,bM⟩=some ⟨[(ta, .bx cs')],[id],[(id,none)]⟩:=by show qi C f S true _ T (.tmp ta) (un true (S.get C (.tmp ta))) (un true (S.get C y))=_;rw[hx,hy];have e:zy C f (.tmp ta)=some ta:=by{unfold zy;simp only;rw[if_pos hin]};subst hz;simp[qi,ha.mm,ha.sz,hc,bU,hh,hr,e,hi]
theorem cx{bb:Bool}{m off:Nat}{ao:Operand}{id:Id}{cs r r':List U}[ha:eD C T bb m](hin:KE (C.fX f) ao=false:=by exact rfl)(hx:un g (S.get C ao)= .mp id 0 off:=by exact rfl)(hy:un g (S.get C y)=v:=by exact gt)(hc:qY bb v=some cs:=by exact rfl)(bU:cs.length=m:=by exact rfl)(hh:S.h id=some (some [r]):=by exact rfl)(hl:Ha (off+m) r.length=true:=by exact rfl)(hq:r.take off++cs++r.drop (off+m)=r':=by exact spine):bP C f call S g ⟨none, .store T ao y,ty,pos,bg,bM⟩=some ⟨[],[id],[(id,some [r'])]⟩:=by show qi C f S g _ T ao (un g (S.get C ao)) (un g (S.get C y))=_;rw[hx,hy];have hl':off+m<=r.length:=Hc hl;have e:=Tw (f:=f) hin;subst hq;simp only[qi,ha.mm,ha.sz,hc];rw[if_neg (by simp[bU]),hh];simp only[QR,AC,if_pos hl',e];rfl
theorem OI{bb:Bool}{m row off:Nat}{ao:Operand}{id:Id}{cs:List U}{α:Type}{c:α->List U}{q:List α}{r:α}(hr:q[row]? =some r)(r':α)[ha:eD C T bb m](hin:KE (C.fX f) ao=false:=by exact rfl)(hx:un g (S.get C ao)= .mp id row off:=by exact rfl)(hy:un g (S.get C y)=v:=by exact gt)(hc:qY bb v=some cs:=by first|exact rfl|exact ap2)(bU:cs.length=m:=by exact rfl)(hh:S.h id=some (some (q.map c)):=by exact rfl)(hl:Ha (off+m) (c r).length=true:=by exact rfl)(hq:(c r).take off++cs++(c r).drop (off+m)=c r':=by exact rfl):bP C f call S g ⟨none, .store T ao y,ty,pos,bg,bM⟩=some ⟨[],[id],[(id,some ((q.set row r').map c))]⟩:=by show qi C f S g _ T ao (un g (S.get C ao)) (un g (S.get C y))=_;rw[hx,hy];have hl':off+m<=(c r).length:=Hc hl;have e:=Tw (f:=f) hin;have e2:(q.map c)[row]? =some (c r):=by{simp[hr]};simp only[qi,ha.mm,ha.sz,hc];rw[if_neg (by simp[bU]),hh];simp only[e2,AC,if_pos hl',e];rw[hq,List.map_set];rfl
theorem v7{e:TypeId}{m n:Nat}{bb:Bool}{α:Type}{c:α->List U}{q:List α}{i:Int}{r:α}{id:Id}(hi:idx q i=some r)[hu:eP C T (.slice e)][hs:eD C e bb m](hx:un g (S.get C x)= .rs id 0 n:=by first|exact rfl|exact cH)(hh:S.h id=some (some (q.map c)):=by exact rfl)(hl:n=q.length:=by exact xR)(hy:un g (S.get C y)= .val (.int k i):=by first|exact rfl|exact cH)(hr:(c r).length=m:=by exact rfl):bP C f call S g ⟨some d, .indexAddr T x y,ty,pos,bg,bM⟩=some ⟨[(d, .mp id i.toNat 0)],[id],[]⟩:=by show qg C S _ T (un g (S.get C x)) (e5 (un g (S.get C y)))=_;have hb:=NV hi;have hn:=rf hi;subst hl;simp only[hx,hy,e5,qg,hu.ul,hs.sz];rw[if_pos hb,hh];simp[hn,hr]
section
variable{α:Type}{c:α->List U}{q q' r:List α}{id kf:Id}{e:TypeId}{m n n':Nat}{T dc:TypeId}
abbrev Eb:= @o4
theorem RV{rx:U}{xs ys:Rows}{i1 i2:List Id}(hok:Ec C e m=true)(hu:C.P.underlying T=some (.slice e))(hu1:C.P.underlying dc=some (.slice e))(hx:un g (S.get C x)=rx)(xH:rowsOf S.h rx=some (xs,i1))(hy:rowsOf S.h (un g (S.get C y))=some (ys,i2))(hl:ys.all (·.length==m)=true)(hcell:uG ys=true)(hlen:xs.length+ys.length<=rA)(hn:S.h [d]=none){BO:aZ}(he:Eb S ⟨some d, .call ⟨.builtin .append,⟨[x,y]⟩,⟨[T,dc]⟩⟩,ty,pos,bg,bM⟩ d m rx xs ys i1 i2=some BO):nK C S ⟨some d, .call ⟨.builtin .append,⟨[x,y]⟩,⟨[T,dc]⟩⟩,ty,pos,bg,bM⟩ ⟨[T,dc]⟩ ([x,y].map fun x=>un g (S.get C x))=some BO:=by unfold Ec at hok;split at hok;·{rename_i inf Nj;simp only[GT,beq_iff_eq,decide_eq_true_eq]at hok;obtain⟨⟨⟨k1,k2⟩,dB⟩,kg⟩:=hok;subst k1;have e1:(#[T,dc]:Array TypeId)[0]? =some T:=rfl;have e2:(#[T,dc]:Array TypeId)[1]? =some dc:=rfl;simp only[H0,H1,nK,e1,e2,AC,hu1,By,hu,Nj,hx,xH,hy];rw[if_pos (by simp only[GT,decide_eq_true_eq];exact⟨⟨⟨⟨⟨⟨hl,k2⟩,dB⟩,kg⟩,hlen⟩,hcell⟩,by rw[hn];rfl⟩)];unfold Eb at he;exact he};·cases hok
theorem aby{rx:U}{xs ys:Rows}{i1 i2:List Id}(hok:Ec C e m=true)(hu:C.P.underlying T=some (.slice e))(hu1:C.P.underlying dc=some (.slice e))(hx:un g (S.get C x)=rx)(xH:rowsOf S.h rx=some (xs,i1))(hy:rowsOf S.h (un g (S.get C y))=some (ys,i2))(hl:ys.all (·.length==m)=true)(hcell:uG ys=true)(hlen:xs.length+ys.length<=rA)(hn:S.h [d]=none)(hfz:(C.fX f).contains d=false){BO:aZ}(he:Eb S ⟨some d, .call ⟨.builtin .append,⟨[x,y]⟩,⟨[T,dc]⟩⟩,ty,pos,bg,bM⟩ d m rx xs ys i1 i2=some BO):bP C f call S g ⟨some d, .call ⟨.builtin .append,⟨[x,y]⟩,⟨[T,dc]⟩⟩,ty,pos,bg,bM⟩=some BO:=by show(nK C S _ _ ([x,y].map fun x=>un g (S.get C x))).bind (sx C f _)=_;have key:nK C S ⟨some d, .call ⟨.builtin .append,⟨[x,y]⟩,⟨[T,dc]⟩⟩,ty,pos,bg,bM⟩ ⟨[T,dc]⟩ ([x,y].map fun x=>un g (S.get C x))=some BO:=RV hok hu hu1 hx xH hy hl hcell hlen hn he;rw[key];simp only[AC,sx,fA,hfz,GE,if_false]
theorem W3{L:Id->Option (Option Rows)}(hh:L id=some (some (q.map c))):rowsOf L (.rs id 0 q.length)=some (q.map c,[id]):=by show(match L id with|some (some rs)=>if 0+q.length<=rs.length then some ((rs.drop 0).take q.length,[id])else none|_=>none)=_;rw[hh];simp only;rw[if_pos (by simp),If,H5 (by simp)]
theorem pM(hr:app q q'=some r)[hu:eP C T (.slice e)][hu1:eP C dc (.slice e)][hok:wN C e m](hx:un g (S.get C x)= .rs id 0 n:=by exact rfl)(hh:S.h id=some (some (q.map c)):=by exact rfl)(hlen:n=q.length:=by exact xR)(hy:un g (S.get C y)= .sl (q'.map c):=by exact rfl)(hl:∀x,(c x).length=m:=by exact fun _=>rfl)(hcell:uG (q'.map c)=true:=by first|exact PC|exact rfl)(hn:S.h [d]=none:=by exact rfl)(hfz:(C.fX f).contains d=false:=by exact rfl):bP C f call S g ⟨some d, .call ⟨.builtin .append,⟨[x,y]⟩,⟨[T,dc]⟩⟩,ty,pos,bg,bM⟩=some ⟨[(d, .rs [d] 0 r.length)],[id],[(id,none),([d],some (r.map c))]⟩:=by obtain⟨h1,rfl⟩:=RZ hr;subst hlen;refine aby hok.ao hu.ul hu1.ul hx (W3 hh) (by rw[hy];rfl) (D8 hl) hcell (by simpa[rA]using h1) hn hfz ?_;simp only[Eb,o4,hh];rw[if_pos (by simp only[GT];refine⟨⟨D8 hl,by simp⟩, ?_⟩;cases q<;>simp)];simp[put,RK]
theorem VE [agN:wQ c](hr:app q q'=some r)[hu:eP C T (.slice e)][hu1:eP C dc (.slice e)][hok:wN C e m](hx:un g (S.get C x)= .rs id 0 n:=by exact rfl)(hh:S.h id=some (some (q.map c)):=by exact rfl)(hlen:n=q.length:=by exact xR)(hy:un g (S.get C y)= .sl (q'.map c):=by exact rfl)(hl:∀x,(c x).length=m:=by exact fun _=>rfl)(hcell:uG (q'.map c)=true:=by first|exact PC|exact rfl)(hn:S.h [d]=none:=by exact rfl)(hfz:(C.fX f).contains d=true:=by exact rfl):bP C f call S g ⟨some d, .call ⟨.builtin .append,⟨[x,y]⟩,⟨[T,dc]⟩⟩,ty,pos,bg,bM⟩=some ⟨[(d, .sl (r.map c))],[id],[(id,none),([d],none)]⟩:=by obtain⟨h1,rfl⟩:=RZ hr;subst hlen;show(nK C S _ _ ([x,y].map fun x=>un g (S.get C x))).bind (sx C f _)=_;have key:nK C S ⟨some d, .call ⟨.builtin .append,⟨[x,y]⟩,⟨[T,dc]⟩⟩,ty,pos,bg,bM⟩ ⟨[T,dc]⟩ ([x,y].map fun x=>un g (S.get C x))=some ⟨[(d, .rs [d] 0 (q++q').length)],[id],[(id,none),([d],some ((q++q').map c))]⟩:=by{refine RV hok.ao hu.ul hu1.ul hx (W3 hh) (by rw[hy];rfl) (D8 hl) hcell (by simpa[rA]using h1) hn ?_;simp only[Eb,o4,hh];rw[if_pos (by simp only[GT];refine⟨⟨D8 hl,by simp⟩, ?_⟩;cases q<;>simp)];simp[put,RK]};have hi:lT ((q++q').map c)=true:=by{simp only[lT,IH,Hm];exact fun x _=>agN.im x};rw[key];simp only[AC,sx,fA,hfz,if_true,hi,and_self,put]
end
theorem VI{e:TypeId}{m:Nat}{α:Type}{c:α->List U}{dQ:α}{hJ:List U}{nn:Int}{r:List α}(hr:ur nn dQ=some r)(NT:c dQ=hJ)[hu:eP C T (.slice e)][hok:wN C e m][hz:u6 C e hJ](hx:un g (S.get C x)= .val (.int k nn):=by exact rfl)(hy:un g (S.get C y)= .val (.int k nn):=by exact rfl)(hzl:hJ.length=m:=by exact rfl)(hn:S.h [d]=none:=by exact rfl):bP C f call S g ⟨some d, .makeSlice T x y,ty,pos,bg,bM⟩=some ⟨[(d, .rs [d] 0 r.length)],[],[([d],some (r.map c))]⟩:=by show vo C S _ T (un g (S.get C x)) (un g (S.get C y))=_;unfold ur at hr;split at hr;·{rename_i hp;obtain rfl:Hn nn.toNat dQ=r:=by{simpa using hr};have hok:=hok.ao;unfold Ec at hok;split at hok;·{rename_i inf Nj;simp only[Bool.and_eq_true,beq_iff_eq,decide_eq_true_eq]at hok;obtain⟨⟨⟨k1,k2⟩,dB⟩,kg⟩:=hok;simp only[hx,hy,vo,hu.ul,e5,hz.Yg,Nj];rw[if_pos (by simp only[Bool.and_eq_true,decide_eq_true_eq];exact⟨⟨⟨⟨by omega,by omega⟩,dB⟩,by omega⟩,by rw[hn];rfl⟩)];simp[put,NT]};·cases hok};·cases hr
theorem acA{e:TypeId}{bb:Bool}{m len:Nat}{hJ:List U}{ps:List (Nat×U)}{rows:Rows}(hu:C.P.underlying T=some (.slice e))(hz:Be C e=some hJ)(ha:lU C e=some bb)(hs:iP C e=some m)(h0:(decide (0<m)&&decide (m=hJ.length)&&decide (len*m<=1000))=true)(hf:vq m bb (Hn len hJ) ps=some rows):BE C T len ps=some rows:=by simp only[BE,hu,hz,ha,hs,h0,if_true,hf]
theorem gW{e:TypeId}{bb:Bool}{m len:Nat}{hJ:List U}{p:List (Nat×Operand)}{ps:List (Nat×U)}{rows bA:Rows}[hu:eP C T (.slice e)][hz:mQ C e hJ][ha:eD C e bb m](hin:(C.fX f).contains d=true:=by exact rfl)(h0:(decide (0<m)&&decide (m=hJ.length)&&decide (len*m<=1000))=true:=by exact rfl)(hq:(p.map fun p=>(p.1,un g (S.get C p.2)))=ps:=by exact Kg)(hf:vq m bb (Hn len hJ) ps=some rows:=by exact rfl)(Cn:rows.map mG=bA:=by exact spine)(hi:lT bA=true:=by exact rfl):bP C f call S g ⟨some d, .buildSlice T len ⟨p⟩,ty,pos,bg,bM⟩=some ⟨[(d, .sl bA)],[],[]⟩:=by show so C f S _ T len (p.map fun p=>(p.1,un g (S.get C p.2)))=_;rw[hq];have hb:=acA hu.ul hz.hJ ha.mm ha.sz h0 hf;unfold so;rw[if_neg (by simp[LC,hb,Cn,hi])];simp only[vm,hu.ul,hz.hJ,ha.mm,ha.sz,h0,if_true,hf,fA,hin,Cn,hi,Pi];rfl
theorem F7{e:TypeId}{bb:Bool}{m len:Nat}{hJ:List U}{p:List (Nat×Operand)}{ps:List (Nat×U)}{rows bA:Rows}[hu:eP C T (.slice e)][hz:mQ C e hJ][ha:eD C e bb m](hin:(C.fX f).contains d=false:=by exact rfl)(h0:(decide (0<m)&&decide (m=hJ.length)&&decide (len*m<=1000))=true:=by exact rfl)(hq:(p.map fun p=>(p.1,un g (S.get C p.2)))=ps:=by exact Kg)(hf:vq m bb (Hn len hJ) ps=some rows:=by exact rfl)(hs:rows=bA:=by exact spine)(hn:S.h [d]=none:=by exact rfl):bP C f call S g ⟨some d, .buildSlice T len ⟨p⟩,ty,pos,bg,bM⟩=some ⟨[(d, .rs [d] 0 len)],[],[([d],some bA)]⟩:=by show so C f S _ T len (p.map fun p=>(p.1,un g (S.get C p.2)))=_;subst hs;rw[hq];unfold so;rw[if_neg (by simp[LC,fA];intro h;simp[h]at hin)];simp only[vm,hu.ul,hz.hJ,ha.mm,ha.sz,h0,if_true,hf,fA,hin,Ps,GE,if_false];rw[if_pos (UG hn)];rfl
/-! ### Calls -/
section
variable{L:Id->Option (Option Rows)}{n m:Nat}{α:Type}{c c':α->List U}{q:List α}{id:Id}{as bs cs cs':List U}{is i2:List Id}{x u:U}
theorem Sd{a:U}(h:gy a=true):cV L (n+1) a=some (a,[]):=by cases a with|agg cs=>(simp only[gy]at h;simp[cV,lO,h])|aI cs=>(simp only[gy]at h;simp[cV,lO,h])|fn k a b=>(simp only[gy,GT]at h;simp[cV,lO,h])|_=>first|rfl|simp[gy]at h
theorem acI{w:Value}(hx:x= .val w:=by exact rfl):cV L (n+1) x=some (.val w,[]):=by rw[hx];rfl
theorem acH{r:Rows}(hx:x= .sl r:=by exact rfl):cV L (n+1) x=some (.sl r,[]):=by rw[hx];rfl
theorem acF(hx:x= .cB:=by exact rfl):cV L (n+1) x=some (.sl [],[]):=by rw[hx];rfl
theorem acD{t:TypeId}{e:cz}(hx:x=iI t e:=by first|exact rfl|exact KJ):cV L (n+1) x=some (iI t e,[]):=by rw[hx];exact Sd (aeh e)
theorem acE(hx:x=u:=by exact gt)(hi:gy u=true:=by exact rfl):cV L (n+1) x=some (u,[]):=by rw[hx];exact Sd hi
theorem acG [hc:wQ c](hx:x= .rs id 0 m:=by exact rfl)(hh:L id=some (some (q.map c)):=by exact rfl)(hl:m=q.length:=by exact xR):cV L (n+1) x=some (.sl (q.map c),[id]):=by subst hx hl;have hi':lT (q.map c)=true:=by{simp only[lT,IH,Hm];exact fun x _=>hc.im x};have e:((q.map c).drop 0).take q.length=q.map c:=by{rw[If,H5 (by simp)]};have e0:cV L (n+1) (.rs id 0 q.length)=match L id with|some (some rs)=>if 0+q.length<=rs.length then(qW (cV L n) ((rs.drop 0).take q.length)).map fun x=>(.sl x.1,id::x.2)else none|_=>none:=rfl;rw[e0,hh];simp only;rw[if_pos (by simp),e];simp[qW,hi']
theorem acC(hx:x= .agg cs)(hi:fI cs=false)(h:fc (cV L n) cs=some (cs',is)):cV L (n+1) x=some (.agg cs',is):=by subst hx;simp[cV,lO,hi,h]
end
/-! ### Borrowing lists whose elements own memory -/
class apf{α:Type}(c:α->List U)(c':outParam (α->List U)):Prop where cV:∀L n x,fc (cV L (n+2)) (c x)=some (c' x,[])Ov:∀x,fI (c x)=false
section
variable{L:Id->Option (Option Rows)}{n m:Nat}{α:Type}{c c':α->List U}{q:List α}{k:Nat}{x x':α}{r r':List U}{id:Id}{ids:List Id}{v:U}
end
section
variable{α:Type}{c c':α->List U}{q:List α}{L:Id->Option (Option Rows)}{n:Nat}{id:Id}{as bs cs cs':List U}{x:U}{is i2:List Id}
theorem LG{y:Option (U×List Id)}(h:cV L n x=y:=by repeat'(first|exact acI|exact apB|exact apC|(apply apD;exact rfl)|exact acD|exact apQ|exact acH|exact acG|exact apS|exact apW|exact apV|(apply apT;exact rfl;exact rfl;exact rfl;(first|(with_reducible assumption)|assumption);exact xR;exact inferInstance;rotate_left;exact rfl)|(apply apU;exact rfl;exact rfl;exact rfl;(first|(with_reducible assumption)|assumption);exact ajn;exact inferInstance;rotate_left;exact rfl)|exact acE|exact apP|exact acF|exact apG|exact apR|exact apJ|exact apM|exact apO|exact apN|exact apK|exact apI|exact apL|exact apF|exact EP|(apply EO;exact rfl)|(apply acC;exact rfl;exact rfl)|(apply apH;exact rfl;exact rfl;exact rfl)|(apply apE;exact rfl))):cV L n x=y:=h
theorem acn(h:as=[]:=by exact rfl):tH L as=some ([],[]):=by subst h;rfl
theorem acm{a b:U}{z:List Id}(ha:cs=a::as)(h1:cV L 9 a=some (b,is))(h2:tH L as=some (bs,i2))(hz:is++i2=z):tH L cs=some (b::bs,z):=by subst ha hz;unfold tH at*;simp[fc,h1,h2]
theorem blk{y:Option (List U×List Id)}(h:tH L as=y:=by repeat'(first|exact acn|(apply acm;exact rfl;exact LG)|exact rfl)):tH L as=y:=h
theorem aos{ms:List Nat}(h:as=[]:=by exact rfl):lI L ms as=some ([],[],[],[]):=by subst h;cases ms<;>rfl
section
variable{ms:List Nat}{a b b':U}{i s t z:List Id}
theorem aor{u:List Id}(ha:cs=a::as)(h:pk L 9 a=some (b,i))(k:lI L ms as=some (bs,s,t,z))(hu:i++t=u):lI L (1::ms) cs=some (b::bs,s,u,z):=by subst ha hu;simp[lI,k,h]
theorem aot{u:List Id}(ha:cs=a::as)(h:cV L 9 a=some (b,i))(k:lI L ms as=some (bs,s,t,z))(hu:i++s=u):lI L (0::ms) cs=some (b::bs,u,t,z):=by subst ha hu;simp[lI,k,h]
end
theorem aov{ms:List Nat}{y:Option (List U×List Id×List Id×List Id)}(h:lI L ms as=y:=by repeat'(first|exact aos|(apply aor;exact rfl;exact n4)|(apply aot;exact rfl;exact LG)|(apply atC;exact rfl;exact n4;exact EX)|(apply atD;exact rfl;exact LG)|exact rfl)):lI L ms as=y:=h
/-! Nothing from elsewhere -/
end
section
variable{cD:Operand}{ts:Array TypeId}{ef:FuncId}{as bs cs args:List U}{seen:List Id}{r:U}{wr:List (Id×Option Rows)}{xs:Array Operand}
theorem Mm(hfo:un g (S.get C cD)= .fn (.func ef) as bs)(ec:C.iY ef=false):mz C (un g (S.get C cD))=none:=by rw[hfo];simp[mz,ec]
theorem L1{d':Option Tmp}(h:mz C (un g (S.get C cD))=none):bP C f call S g ⟨d', .call ⟨.value cD,xs,ts⟩,ty,pos,bg,bM⟩=(match pathOf C cD with|some p=>xl S ⟨d', .call ⟨.value cD,xs,ts⟩,ty,pos,bg,bM⟩ p (xs.toList.map fun x=>un g (S.get C x))|none=>if Dt C cD then(match(generalizing:=false)cD with| .func k=>tJ C f call S ⟨d', .call ⟨.value cD,xs,ts⟩,ty,pos,bg,bM⟩ k (xs.toList.map fun x=>un g (S.get C x))|_=>none)else tI C f call S ⟨d', .call ⟨.value cD,xs,ts⟩,ty,pos,bg,bM⟩ (un g (S.get C cD)) (xs.toList.map fun x=>un g (S.get C x))):=by show(match mz C (un g (S.get C cD))with|some x=>qX C f call S _ x.1 (x.2.1++(xs.toList.map fun x=>un g (S.get C x))++x.2.2)|none=>_)=_;rw[h];first|rfl|(cases cD<;>rfl)
theorem eG(hc:call ef args=some (r,[]))(hfo:un g (S.get C cD)= .fn (.func ef) as bs:=by exact rfl)(hb:tH S.h (as++(xs.toList.map fun x=>un g (S.get C x))++bs)=some (args,seen):=by exact blk)(hm:(seen.isEmpty||mine r)=true:=by first|exact rfl|exact Vl)(hz:(C.fX f).contains d=false:=by exact rfl)(hi:imp [d] r=(v',wr):=by exact Co)(hf:fresh S.h wr=true:=by exact rfl)(ht:Dt C cD=false:=by exact rfl)(zZ:pathOf C cD=none:=by exact rfl)(hlk:C.look ef=false:=by exact rfl)(ec:C.iY ef=false:=by exact rfl):bP C f call S g ⟨some d, .call ⟨.value cD,xs,ts⟩,ty,pos,bg,bM⟩=some ⟨[(d,v')],seen,wr⟩:=by rw[L1 (Mm hfo ec)];rw[zZ];simp only;rw[ht];simp only[GE,if_false];rw[hfo];simp only[tI,hlk,hb,hc,fA,hz,GE,if_false];rw[if_neg (by cases seen with|nil=>(simp)|cons a l=>simp at hm;simp[hm]),hi];simp only[hf,if_true];rfl
theorem cT(hc:call ef args=some (r,[]))(hfo:un g (S.get C cD)= .fn (.func ef) as bs:=by exact rfl)(hb:tH S.h (as++(xs.toList.map fun x=>un g (S.get C x))++bs)=some (args,seen):=by exact blk)(hm:(seen.isEmpty||mine r)=true:=by first|exact rfl|exact Vl)(hz:(C.fX f).contains d=true:=by exact rfl)(hv:ey r=v:=by exact EX)(hi:imp [d] v=(v',wr):=by exact Co)(hf:fresh S.h wr=true:=by exact rfl)(ht:Dt C cD=false:=by exact rfl)(zZ:pathOf C cD=none:=by exact rfl)(hlk:C.look ef=false:=by exact rfl)(ec:C.iY ef=false:=by exact rfl):bP C f call S g ⟨some d, .call ⟨.value cD,xs,ts⟩,ty,pos,bg,bM⟩=some ⟨[(d,v')],seen,wr⟩:=by rw[L1 (Mm hfo ec)];rw[zZ];simp only;rw[ht];simp only[GE,if_false];rw[hfo];simp only[tI,hlk,GE,if_false,hb,hc,fA,hz,if_true,hv];rw[if_neg (by cases seen with|nil=>(simp)|cons a l=>simp at hm;simp[hm]),hi];simp only[hf,if_true];rfl
theorem acR{ms cM:List Nat}{outs:List U}{tk ez:List Id}{back:List (Id×Option Rows)}{nG:List (Id×Option Rows)}(hm:C.CH ef=ms)(hm0:ms.isEmpty=false)(hle:C.cM ef=cM)(ht:lI S.h ms (xs.toList.map fun x=>un g (S.get C x))=some (args,seen,tk,ez))(hc:call ef args=some (r,outs))(hv:(if fA C f (some d)then ey r else r)=v)(hb:js S.h (xs.toList.map fun x=>un g (S.get C x)) cM outs=some back)(h1:(dV (tk++ez)&&tO seen (tk++ez))=true)(h2:(seen.isEmpty||mine r&&outs.all mine)=true)(h3:(dV (back.map (·.1))&&(back.all fun x=>tk.contains x.1))=true)(hi:imp [d] v=(v',nG))(hf:fresh S.h nG=true)(hw:nG++(back++(tk++ez).map fun i=>(i,none))=wr)(zZ:C.path ef=none)(ec:C.iY ef=false:=by exact rfl):bP C f call S g ⟨some d, .call ⟨.value (.func ef),xs,ts⟩,ty,pos,bg,bM⟩=some ⟨[(d,v')],seen,wr⟩:=by rw[L1 (Mm (as:=[]) (bs:=[]) rfl ec)];simp only[pathOf,zZ];have e0:Dt C (.func ef)=true:=by{simp[Dt,hm,hm0]};subst hw hm hle hv;rw[e0,if_pos rfl];unfold tJ;simp only[ht,hc,hb,hi];simp only[GT]at h1 h3;rw[if_pos (by simp only[GT];exact⟨⟨⟨⟨⟨h1.1,h1.2⟩,h2⟩,h3.1⟩,h3.2⟩,hf⟩)];rfl
end
end
open Go
def EB{α:Type}(a b:List α):Option Unit:=if a.length=b.length then some ()else none
theorem aeb{α:Type}{a b:List α}{u:Unit}(h:EB a b=some u):a.length=b.length:=by unfold EB at h;split at h;·{(first|(with_reducible assumption)|assumption)};·cases h
section
variable{L:Id->Option (Option Rows)}{id:Id}{cs old as bs args:List U}{n m:Nat}{α:Type}{c:α->List U}{q q0:List α}{w w2:List (Id×Option Rows)}{a b:U}{j:Nat}{l:List Nat}
theorem anA(hlen:q.length=q0.length)(ha:a= .rs id 0 m:=by exact rfl)(hb:b= .own (q.map c) q.length:=by exact rfl)(hh:L id=some (some (q0.map c)):=by exact rfl)(hm:m=q0.length:=by exact xR)(hn:∀x,(c x).length=n:=by exact fun _=>rfl):mb L a b=some [(id,some (q.map c))]:=by subst ha hb hm;cases q0 with|nil=>(obtain rfl:q=[]:=List.length_eq_zero_iff.1 hlen;simp only[H1]at hh;simp[mb,hh])|cons x q0=>simp only[H0]at hh;simp only[mb,hh];rw[if_pos ⟨by simpa using hlen,by simpa using hlen,by simp,by simp[hn]⟩]
theorem anB{r:Rows}(ha:a= .sl r:=by exact rfl):mb L a b=some []:=by subst ha;rfl
theorem aml(ha:as=[]:=by exact rfl)(hb:bs=[]:=by exact rfl):k4 L as bs=some []:=by subst ha hb;rfl
theorem amk(ha:cs=a::as)(hb:old=b::bs)(h1:mb L a b=some w)(h2:k4 L as bs=some w2):k4 L cs old=some (w++w2):=by subst ha hb;simp[k4,h1,h2]
theorem amO(hb:bs=[]:=by exact rfl):js L args [] bs=some []:=by subst hb;rfl
theorem amN(hb:old=b::bs)(ha:args[j]? =some a)(h1:wE L a b=some w)(h2:js L args l bs=some w2):js L args (j::l) old=some (w++w2):=by subst hb;simp[js,ha,h1,h2]
theorem rlk{y:Option (List (Id×Option Rows))}(h:js L args l bs=y:=by repeat'(first|exact amO|exact atc|exact atd|exact anB|exact anA (by(first|(with_reducible assumption)|assumption))|exact aml|(apply amk;exact rfl;exact rfl)|(apply atb;exact rfl;exact rfl)|(apply ata;exact rfl)|(apply amN;exact rfl;exact rfl))):js L args l bs=y:=h
end
section
variable{C:aE}{f:FuncId}{call:gF}{S:ai}{g:Bool}
variable{d:Nat}{ty:TypeId}{pos:String}{bg:Array Edge}{bM:Option (Nat×Bool)}{v v':U}
theorem akb{xs:Array Operand}{ts:Array TypeId}{ef:FuncId}{ms cM:List Nat}{args outs:List U}{seen tk ez:List Id}{r:U}{back nG wr:List (Id×Option Rows)}(hc:call ef args=some (r,outs))(hm:C.CH ef=ms:=by exact rfl)(hm0:ms.isEmpty=false:=by exact rfl)(hle:C.cM ef=cM:=by exact rfl)(ht:lI S.h ms (xs.toList.map fun x=>un g (S.get C x))=some (args,seen,tk,ez):=by exact aov)(hz:(C.fX f).contains d=true:=by exact rfl)(hv:ey r=v:=by exact EX)(hb:js S.h (xs.toList.map fun x=>un g (S.get C x)) cM outs=some back:=by exact rlk)(h1:(dV (tk++ez)&&tO seen (tk++ez))=true:=by exact rfl)(h2:(seen.isEmpty||mine r&&outs.all mine)=true:=by first|exact rfl|exact aq0 Vl arX)(h3:(dV (back.map (·.1))&&(back.all fun x=>tk.contains x.1))=true:=by exact rfl)(hi:imp [d] v=(v',nG):=by exact Co)(hf:fresh S.h nG=true:=by exact rfl)(hw:nG++(back++(tk++ez).map fun i=>(i,none))=wr:=by exact spine)(zZ:C.path ef=none:=by exact rfl)(ec:C.iY ef=false:=by exact rfl):bP C f call S g ⟨some d, .call ⟨.value (.func ef),xs,ts⟩,ty,pos,bg,bM⟩=some ⟨[(d,v')],seen,wr⟩:=acR hm hm0 hle ht hc (v:=v) (by simp only[fA,hz,if_true,hv]) hb h1 h2 h3 hi hf hw zZ ec
end
theorem dY{C:aE}{f:FuncId}{a b:Nat}{args:List U}{r:Option (U×List U)}(h:den C a f args=r)(e:a=b):den C b f args=r:=e▸h
/-! ### Functions -/
def x8:List U->U|[r]=>r|vs=> .aI vs
def Fin(C:aE)(rv:List ResultVar)(cM:List Nat)(r:U)(outs:List U)(x:Exit×ai):Prop:=(x.1= .ret∨x.1= .normal)∧∃vs ids is,me C x.2 rv=some (vs,ids)∧kX x.2.h x.2.t cM=some (outs,is)∧dV (ids++is)=true∧x8 vs=r
section
variable{C:aE}{f:FuncId}{call:gF}{S:ai}{T:TypeId}
variable{rv:List ResultVar}{cM:List Nat}{vs outs cs r:List U}{ids is:List Id}{v v':U}
theorem amY:me C S []=some ([],[]):=rfl
theorem am0{t:Nat}(h:pk S.h 9 (un true (S.t t))=some (v,ids))(hr:me C S rv=some (vs,is)):me C S (.tmp t::rv)=some (v::vs,ids++is):=by show(yz C S (.tmp t)).bind _=_;simp only[yz,h,AC,hr,Hb]
theorem amZ{a m:Nat}{id:Id}{bb:Bool}[ha:eD C T bb m](hx:un true (S.t a)= .mp id 0 0)(hh:S.h id=some (some [r]))(hl:Ha m r.length=true)(hv:kn bb (r.take m)=some v)(h:pk S.h 9 v=some (v',ids))(hr:me C S rv=some (vs,is)):me C S (.cell a T::rv)=some (v'::vs,id::ids++is):=by show(yz C S (.cell a T)).bind _=_;have hl':0+m<=r.length:=by{have:=Hc hl;omega};simp only[yz,ha.mm,ha.sz,hx,hh,QR,if_pos hl',If,hv,AC,h,hr,Hb]
theorem JQ{cells:List U}(hc:cells=cs:=by exact spine):kn true cells=some (.agg cs):=by subst hc;rfl
theorem PE{y:Option (List U×List Id)}(h:me C S rv=y:=by repeat'(first|with_reducible exact amY|((with_reducible apply am0);exact n4)|((with_reducible apply amZ);exact rfl;exact rfl;exact rfl;(first|exact JQ|exact On rfl);exact n4)|((with_reducible apply as9);exact rfl;exact rfl;(first|exact JQ|exact On rfl);exact n4))):me C S rv=y:=h
theorem fin{r:U}(h:me C S rv=some (vs,ids):=by exact PE)(hp:kX S.h S.t cM=some (outs,is):=by exact Kf)(hn:dV (ids++is)=true:=by exact rfl)(hr:x8 vs=r:=by exact rfl):Fin C rv cM r outs (.ret,S):=⟨.inl rfl,vs,ids,is,h,hp,hn,hr⟩
theorem dU{fn:Func}{c:Code}{args:List U}{nn N:Nat}{r:U}{t:Nat->U}{h:Id->Option (Option Rows)}{sl:List Nat}(hf:C.P.funcs[f]? =some fn)(hn:fn.ntmps=N)(hr:fn.results.toList=rv)(k:W C f (den C nn) c ⟨N,t,h⟩ (Fin C rv cM r outs))(hb:fn.body=some c:=by exact rfl)(he:C.ext f=none:=by exact rfl)(hle:C.cM f=cM:=by exact rfl)(hl:Ha args.length N=true:=by exact rfl)(mD:H3 args.length=sl:=by exact rfl)(hm:bq N sl args=⟨N,t,h⟩:=by exact Oo)(ec:C.iY f=false:=by exact rfl):den C (nn+1) f args=some (r,outs):=by obtain⟨⟨e,s⟩,h1,h2,vs,ids,is,h3,h6,h4,h5⟩:=k;subst hr hn hle mD;show tR C (den C nn) lV f args=_;unfold tR;simp only[he,hf,hb,ec,GE,if_false,if_pos (Hc hl),hm,h1,AC];have cL:finish C fn (C.cM f) args s=some (r,outs):=by{unfold finish;simp only at h3 h6;rw[h3,h6];simp only[h4,if_true];rw[<-h5];congr 2;cases vs with|nil=>(rfl)|cons a l=>cases l<;>rfl};rcases h2 with h2|h2;·{simp only at h2;subst h2;exact cL};·simp only at h2;subst h2;exact cL
end
/-! ### Loops -/
def cj.go{b7 ρ ρ':Type}(kb:b7->Option ρ)(Cz:ρ'->Option ρ):cj b7 ρ'->Option ρ| .dz x=>kb x| .ret r=>Cz r
section
variable{C:aE}{f:FuncId}{call:gF}{S:ai}{Q:Exit×ai->Prop}{c:Code}{σ b7 ρ ρ':Type}{r:ρ}{k:Nat}{o:Option (Bool×List Nat)}{rep:σ->ai}[k6]
def wV(o:Option (Bool×List Nat))(rep:σ->ai)(Rel:b7->Exit×ai->Prop)(y:b8 σ b7)(x:Exit×ai):Prop:=match y with| .next s'=>x.1= .normal∧fH o x.2=some (rep s')| .out v=>x.1≠ .normal∧Rel v x
def xz(C:aE)(f:FuncId)(c:Code):Option (Bool×List Nat):=match ox c with|some i=>some (C.shr f i,C.live f i)|none=>some (false,[])
theorem Vc{step:σ->Option (b8 σ b7)}(Rel:b7->Exit×ai->Prop){gC:σ}{v:b7}(hL:Loop step gC=some v)(h0:fH (xz C f c) S=some (rep gC))
  (body:∀s y,step s=some y->W C f call c (rep s) (wV (xz C f c) rep Rel y)):∃x,cR C f call lV (.loop c) S=some x∧Rel v x:=by
 obtain⟨m,hm⟩:=DT hL
 have key:∀(b:Bool)(slots:List Nat),xz C f c=some (b,slots)->(match ox c with|some i=>C.live f i|none=>[])=slots->(match ox c with|some i=>C.shr f i|none=>false)=b->∃x,cR C f call lV (.loop c) S=some x∧Rel v x:=by
  intro b slots hk hs hb
  rw[hk]at h0 body
  cases b with
  |true=>
   have key:∀m s,LoopN step m s=some v->∃x,lV ai (fun S'=>cR C f call lV c S') (fun S'=>norm S' slots) (rep s)=some x∧Rel v x:=by
    intro m
    induction m with
    |zero=>intro s h;simp[LoopN]at h
    |succ m ih=>
     intro s h
     simp only[LoopN,Hd]at h
     obtain⟨y,h1,h2⟩:=h
     obtain⟨⟨e,S'⟩,h3,h4⟩:=body s y h1
     rw[Vd]
     simp only[h3,AC]
     cases y with
     |next s'=>
      obtain⟨rfl,h5⟩:=h4
      have h5:norm S' slots=some (rep s'):=h5
      simp only[h5,AC]
      exact ih s' h2
     |out o'=>
      obtain⟨h5,h6⟩:=h4
      obtain rfl:o'=v:=by simpa using h2
      cases e with
      |normal=>exact absurd rfl h5
      |_=>exact⟨_,rfl,h6⟩
   obtain⟨x,h3,h4⟩:=key m gC hm
   refine⟨x, ?_,h4⟩
   subst hs
   simp only[cR]
   refine(if_pos hb).trans ?_
   exact(congrArg (R0 · _) (show norm S _=some (rep gC)from h0)).trans h3
  |false=>
   have h0:(kB S slots).map (bq S.n slots)=some (rep gC):=h0
   obtain⟨aoJ,af1,af2⟩:=Option.map_eq_some_iff.1 h0
   have hn:∀s,(∃yK,bq S.n slots yK=rep s)->(rep s).n=S.n:=fun s⟨yK,h⟩=>by rw[<-h,CF]
   have key:∀m s yK,bq S.n slots yK=rep s->LoopN step m s=some v->∃x,lV (List U) (fun cr=>cR C f call lV c (bq S.n slots cr)) (fun S'=>kB S' slots) yK=some x∧Rel v x:=by
    intro m
    induction m with
    |zero=>intro s yK _ h;simp[LoopN]at h
    |succ m ih=>
     intro s yK Uu h
     simp only[LoopN,Hd]at h
     obtain⟨y,h1,h2⟩:=h
     obtain⟨⟨e,S'⟩,h3,h4⟩:=body s y h1
     rw[Vd]
     simp only[Uu,h3,AC]
     cases y with
     |next s'=>
      obtain⟨rfl,h5⟩:=h4
      have h5:(kB S' slots).map (bq S'.n slots)=some (rep s'):=h5
      obtain⟨aoI,Mx,I5⟩:=Option.map_eq_some_iff.1 h5
      have Fb:S'.n=S.n:=by rw[SU FW _ _ _ h3];exact hn s ⟨yK,Uu⟩
      rw[Fb]at I5
      simp only[Mx,AC]
      exact ih s' aoI I5 h2
     |out o'=>
      obtain⟨h5,h6⟩:=h4
      obtain rfl:o'=v:=by simpa using h2
      cases e with
      |normal=>exact absurd rfl h5
      |_=>exact⟨_,rfl,h6⟩
   obtain⟨x,h3,h4⟩:=key m gC aoJ af2 hm
   refine⟨x, ?_,h4⟩
   subst hs
   simp only[cR]
   refine(if_neg fun e=>PH (hb.symm.trans e)).trans ?_
   exact(congrArg (R0 · _) af1).trans h3
 unfold xz at key
 split at key
 ·exact key _ _ rfl rfl rfl
 ·exact key _ _ rfl rfl rfl
def HO(C:aE)(f:FuncId)(k:Nat)(mc:b7->ai)(v:b7)(x:Exit×ai):Prop:=x.1= .exit k∧fH (C.qZ f k) x.2=some (mc v)
def DY(C:aE)(f:FuncId)(k:Nat)(mc:b7->ai)(R:ρ'->Exit×ai->Prop):cj b7 ρ'->Exit×ai->Prop| .dz v,x=>HO C f k mc v x| .ret r,x=>R r x
theorem cE{step:σ->Option (b8 σ b7)}{gC:σ}{wO:b7->Option ρ}(rep:σ->ai)(mc:b7->ai)(hF:(Loop step gC).bind wO=some r)(h0:fH (xz C f c) S=some (rep gC))(body:∀s y,step s=some y->W C f call c (rep s) (wV (xz C f c) rep (HO C f k mc) y))(post:∀v,wO v=some r->Q (.normal,mc v)):W C f call (.block k (.loop c)) S Q:=by obtain⟨v,h1,h2⟩:=Im hF;obtain⟨⟨e,S'⟩,h3,rfl,h5⟩:=Vc (HO C f k mc) h1 h0 body;exact bS ⟨_,h3,Wy h5 (post v h2)⟩
theorem lD{step:σ->Option (b8 σ (cj b7 ρ'))}{gC:σ}{kb:b7->Option ρ}{Cz:ρ'->Option ρ}(rep:σ->ai)(mc:b7->ai)(R:ρ'->Exit×ai->Prop)(hF:(Loop step gC).bind (cj.go kb Cz)=some r)(h0:fH (xz C f c) S=some (rep gC))(body:∀s y,step s=some y->W C f call c (rep s) (wV (xz C f c) rep (DY C f k mc R) y))(post:∀v,kb v=some r->Q (.normal,mc v))(tV:∀v,Cz v=some r->∀x,R v x->qR C f k Q x):W C f call (.block k (.loop c)) S Q:=by obtain⟨v,h1,h2⟩:=Im hF;obtain⟨x,h3,h4⟩:=Vc (DY C f k mc R) h1 h0 body;cases v with|dz v=>(obtain⟨e,S'⟩:=x;obtain⟨rfl,h5⟩:=h4;exact bS ⟨_,h3,Wy h5 (post v h2)⟩)|ret v=>exact bS ⟨_,h3,tV v h2 _ h4⟩
variable{Rel:b7->Exit×ai->Prop}{mc:b7->ai}{R:ρ'->Exit×ai->Prop}
theorem ln{s':σ}{y:b8 σ b7}(hy:some (b8.next s')=some y)(hc:fH o S=some (rep s')):wV o rep Rel y (.normal,S):=by cases hy;exact⟨rfl,hc⟩
theorem lx{v:b7}{y:b8 σ b7}(hy:some (b8.out v)=some y)(hc:fH (C.qZ f k) S=some (mc v)):wV o rep (HO C f k mc) y (.exit k,S):=by cases hy;exact⟨by simp,rfl,hc⟩
theorem nj{v:b7}{y:b8 σ (cj b7 ρ')}(hy:some (b8.out (cj.dz v))=some y)(hc:fH (C.qZ f k) S=some (mc v)):wV o rep (DY C f k mc R) y (.exit k,S):=by cases hy;exact⟨by simp,rfl,hc⟩
theorem lr{v:ρ'}{y:b8 σ (cj b7 ρ')}(hy:some (b8.out (cj.ret v))=some y)(h:R v (.ret,S)):wV o rep (DY C f k mc R) y (.ret,S):=by cases hy;exact⟨by simp,h⟩
theorem lrr{v:ρ'}{y:b8 σ (cj b7 ρ')}{x:Exit×ai}(hy:some (b8.out (cj.ret v))=some y)(hx:x.1≠ .normal)(h:R v x):wV o rep (DY C f k mc R) y x:=by cases hy;exact⟨hx,h⟩
end
theorem inj{α:Type}{a b:α}(h:some a=some b):a=b:=Ix h
open Go
/-! ### Operations -/
section
variable{C:aE}{f:FuncId}{call:gF}{S:ai}{g:Bool}
variable{d:Nat}{ty:TypeId}{pos:String}{bg:Array Edge}{bM:Option (Nat×Bool)}{v v':U}
variable{x y z:Operand}{k:IntKind}{a b:Int}{T dc:TypeId}
end
/-! ### At a function's end -/
section
variable{C:aE}{S:ai}{rv:List ResultVar}{cM:List Nat}{vs outs:List U}{ids is:List Id}{r:U}
theorem bZ(h:me C S rv=some ([r],ids):=by exact PE)(hp:kX S.h S.t cM=some (outs,is):=by exact Kf)(hn:dV (ids++is)=true:=by exact rfl):Fin C rv cM r outs (.ret,S):=⟨.inl rfl,[r],ids,is,h,hp,hn,rfl⟩
theorem c5{a b:U}(h:me C S rv=some (a::b::vs,ids):=by exact PE)(hp:kX S.h S.t cM=some (outs,is):=by exact Kf)(hn:dV (ids++is)=true:=by exact rfl):Fin C rv cM (.aI (a::b::vs)) outs (.ret,S):=⟨.inl rfl,_,ids,is,h,hp,hn,rfl⟩
end
end Go.Ab
