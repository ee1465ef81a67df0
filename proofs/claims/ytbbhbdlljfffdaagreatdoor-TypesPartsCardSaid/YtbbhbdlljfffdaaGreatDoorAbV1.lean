import Derived.Test.YtbbhbdlljfffdaaGreatDoorAbFn
import Derived.Test.YtbbhbdlljfffdaaGreatDoorAbSimp
open Bool renaming and_eq_true→Hd
open Classical renaming choose_spec→Hb
open List renaming nil_append→GT,all_eq_true→Ha
open Nat renaming blt→AC
open Option renaming bind_some→Do,bind_eq_some_iff→GE,map_some→Hc
set_option linter.all false
namespace Go.Ab
open Go
abbrev fO:=FuncId→List U→Option (U×List U)
abbrev aS(n:Int):Int:=IntKind.i64.wrap n
def idx{α:Type}(l:List α)(i:Int):Option α:=if 0≤i then l[i.toNat]? else none
theorem Ck{α β:Type}{c:α→β}{l:List α}{i:Int}{x:α}(h:idx l i=some x):idx (l.map c) i=some (c x):=by unfold idx at*;split at h;·{rw[if_pos ‹_›];simp[h]};·cases h
theorem kf{α:Type}{l:List α}{i:Int}{x:α}(h:idx l i=some x):l[i.toNat]? =some x:=by unfold idx at h;split at h;·{exact h};·cases h
theorem zm{α:Type}{l:List α}{i:Int}{x:α}(h:idx l i=some x):0≤i∧i<(l.length:Nat):=by unfold idx at h;split at h;·{rename_i hp;refine⟨hp, ?_⟩;rcases Nat.lt_or_ge i.toNat l.length with h'|h';·{omega};·rw[List.getElem?_eq_none h']at h;cases h};·cases h
theorem Ee{α β:Type}{o:Option α}{k:α→Option β}{r:β}(h:o.bind k=some r):∃x,o=some x∧k x=some r:=Option.bind_eq_some_iff.1 h
theorem bb{α β:Type}{o:Option α}{k:α→Option β}{r:β}{G:Prop}(h:o.bind k=some r)(g:∀x,o=some x→k x=some r→G):G:=by obtain⟨x,h1,h2⟩:=Ee h;exact g x h1 h2
def W(C:aF)(f:FuncId)(call:fO)(c:Code)(S:ah)(Q:Exit×ah→Prop):Prop:=∃x,cq C f call jJ c S=some x∧Q x
theorem ar{P:Prop}(h:P:=by exact rfl):P:=h
def dI(C:aF)(f:FuncId)(call:fO)(ops:Array Oper)(i:Nat)(l:List Oper)(ks:List iI)(S:ah)(Q:List iI→ah→Prop):Prop:=∃x,lW C f call ops i l S=some x∧Q (ks++x.2) x.1
/-! ### Loops -/
inductive cG(σ bQ:Type)where|next(s:σ)|out(x:bQ)
inductive cP(bQ ρ:Type)where|dy(x:bQ)|ret(r:ρ)
def LoopN{σ bQ:Type}(step:σ→Option (cG σ bQ)):Nat→σ→Option bQ|0,_=>none|m+1,s=>(step s).bind fun y=>match y with| .next s'=>LoopN step m s'| .out x=>some x
open Classical in noncomputable def AK{σ bQ:Type}(step:σ→Option (cG σ bQ))(s:σ):Option bQ:=if h:∃x m,LoopN step m s=some x then some (Classical.choose h)else none
theorem GL{σ bQ:Type}{step:σ→Option (cG σ bQ)}:∀{m:Nat}{s:σ}{x:bQ}(k:Nat),LoopN step m s=some x→LoopN step (m+k) s=some x|0,_,_,_,h=>by{simp[LoopN]at h}|m+1,s,x,k,h=>by rw[Nat.add_right_comm];simp only[LoopN,GE]at h⊢;obtain⟨y,h1,h2⟩:=h;refine⟨y,h1, ?_⟩;cases y with|next s'=>(exact GL k h2)|out x=>exact h2
theorem Ua{σ bQ:Type}{step:σ→Option (cG σ bQ)}{m m':Nat}{s:σ}{x y:bQ}(h1:LoopN step m s=some x)(h2:LoopN step m' s=some y):x=y:=by have e1:=GL m' h1;have e2:=GL m h2;rw[Nat.add_comm]at e2;rw[e1]at e2;exact Option.some.inj e2
theorem T9{σ bQ:Type}{step:σ→Option (cG σ bQ)}{s:σ}{x:bQ}(h:AK step s=some x):∃m,LoopN step m s=some x:=by unfold AK at h;split at h;·{rename_i hx;simp only[Option.some.injEq]at h;subst h;exact Hb hx};·cases h
class jT where
 bR:∀{σ bQ:Type},(σ→Option (cG σ bQ))→σ→Option bQ
 ok:∀{σ bQ:Type}{step:σ→Option (cG σ bQ)}{s:σ}{x:bQ},bR step s=some x→∃m,LoopN step m s=some x
noncomputable instance aeK:jT:=⟨AK,T9⟩
@[reducible]def Rp:jT:=⟨fun step s=>LoopN step 100000 s,fun h=>⟨100000,h⟩⟩
def Loop [jT]{σ bQ:Type}(step:σ→Option (cG σ bQ))(s:σ):Option bQ:=jT.bR step s
theorem GM [jT]{σ bQ:Type}{step:σ→Option (cG σ bQ)}{s:σ}{x:bQ}(h:Loop step s=some x):∃m,LoopN step m s=some x:=jT.ok h
theorem GO{σ bQ:Type}{step:σ→Option (cG σ bQ)}{m:Nat}{s:σ}{x:bQ}(h:LoopN step m s=some x):Loop step s=some x:=by show AK step s=some x;unfold AK;have hx:∃x m,LoopN step m s=some x:=⟨x,m,h⟩;rw[dif_pos hx];obtain⟨m',h'⟩:=Hb hx;rw[Ua h' h]
theorem gr{σ bQ:Type}(step:σ→Option (cG σ bQ))(s:σ):Loop step s=(step s).bind fun y=>match y with| .next s'=>Loop step s'| .out x=>some x:=by apply Option.ext;intro x;constructor;·{intro h;obtain⟨m,h⟩:=GM h;cases m with|zero=>(simp[LoopN]at h)|succ m=>simp only[LoopN,GE]at h⊢;obtain⟨y,h1,h2⟩:=h;refine⟨y,h1, ?_⟩;cases y with|next s'=>(exact GO h2)|out x=>exact h2};·intro h;simp only[GE]at h;obtain⟨y,h1,h2⟩:=h;cases y with|next s'=>(obtain⟨m,h3⟩:=GM h2;exact GO (m:=m+1) (by simp only[LoopN,h1,Do,h3]))|out x=>exact GO (m:=1) (by simp only[LoopN,h1,Do];exact h2)
section
variable{C:aF}{f:FuncId}{call:fO}{S:ah}{n:Nat}{t:Nat→U}{h:Id→Option (Option Rows)}
variable{Q:Exit×ah→Prop}{a b c:Code}{ρ:Type}{r:ρ}{l:List Oper}{id k:Nat}
/-! ### Code -/
def DW(C:aF)(f:FuncId)(call:fO)(b:Code)(Q:Exit×ah→Prop)(x:Exit×ah):Prop:=match x.1 with| .normal=>∃S',dn (hG C f b) x.2=some S'∧W C f call b S' Q|_=>Q x
theorem sq(h:W C f call a S (DW C f call b Q)):W C f call (.seq a b) S Q:=by obtain⟨⟨e,s⟩,h1,h2⟩:=h;cases e with|normal=>(obtain⟨S',h5,y,h3,h4⟩:=h2;exact⟨y,by simp only[cq,h1,Do,h5,h3],h4⟩)|_=>exact⟨_,by simp only[cq,h1,Do],h2⟩
theorem aQ(h:W C f call b S Q)(hk:hG C f b=none:=by exact rfl):DW C f call b Q (.normal,S):=⟨S,by rw[hk];rfl,h⟩
theorem aM(h:Q (.ret,S)):DW C f call b Q (.ret,S):=h
theorem fC(h:Q (.exit k,S)):DW C f call b Q (.exit k,S):=h
theorem cd{x:Operand}{p:Bool}{A B:Option ρ}(hF:(if p=true then A else B)=some r)(h1:A=some r→W C f call a S Q)(h2:B=some r→W C f call b S Q)(hc:un true (S.get C x)= .val (.bool p):=by exact rfl):W C f call (.cond x a b) S Q:=by cases p with|true=>(obtain⟨y,h3,h4⟩:=h1 (by simpa using hF);exact⟨y,by simp only[cq,hc];simpa using h3,h4⟩)|false=>obtain⟨y,h3,h4⟩:=h2 (by simpa using hF);exact⟨y,by simp only[cq,hc];simpa using h3,h4⟩
theorem X7{x:Operand}(h1:W C f call a S Q)(hc:un true (S.get C x)= .val (.bool true):=by exact rfl):W C f call (.cond x a b) S Q:=by obtain⟨y,h3,h4⟩:=h1;exact⟨y,by simp only[cq,hc];simpa using h3,h4⟩
theorem X6{x:Operand}(h1:W C f call b S Q)(hc:un true (S.get C x)= .val (.bool false):=by exact rfl):W C f call (.cond x a b) S Q:=by obtain⟨y,h3,h4⟩:=h1;exact⟨y,by simp only[cq,hc];simpa using h3,h4⟩
theorem sk(h:Q (.normal,S)):W C f call .skip S Q:=⟨_,rfl,h⟩
theorem rt(h:Q (.ret,S)):W C f call .ret S Q:=⟨_,rfl,h⟩
theorem ex(h:Q (.exit k,S)):W C f call (.exit k) S Q:=⟨_,rfl,h⟩
def pV(C:aF)(f:FuncId)(k:Nat)(Q:Exit×ah→Prop)(x:Exit×ah):Prop:=match x.1 with| .normal=>∃S',dn (C.oP f k) x.2=some S'∧Q (.normal,S')| .exit j=>if j=k then∃S',dn (C.oP f k) x.2=some S'∧Q (.normal,S')else Q (.exit j,x.2)|_=>Q x
theorem cx(h:W C f call c S (pV C f k Q)):W C f call (.block k c) S Q:=by obtain⟨⟨e,s⟩,h1,h2⟩:=h;cases e with|normal=>(obtain⟨S',h3,h4⟩:=h2;exact⟨_,by simp only[cq,h1,Do,h3,Hc],h4⟩)|exit j=>(simp only[pV]at h2;split at h2;·{rename_i hj;obtain⟨S',h3,h4⟩:=h2;exact⟨_,by simp only[cq,h1,Do,hj,if_true,h3,Hc],h4⟩};·rename_i hj;exact⟨_,by simp only[cq,h1,Do,hj,if_false],h2⟩)|_=>exact⟨_,by simp only[cq,h1,Do],h2⟩
theorem aZ(h:Q (.normal,S))(hk:C.oP f k=none:=by exact rfl):pV C f k Q (.normal,S):=⟨S,by rw[hk];rfl,h⟩
theorem aP(h:Q (.ret,S)):pV C f k Q (.ret,S):=h
theorem Lj(h:Q (.normal,S))(hk:C.oP f k=none:=by exact rfl):pV C f k Q (.exit k,S):=by simp only[pV,if_true];exact⟨S,by rw[hk];rfl,h⟩
theorem ahG{j:Nat}(h:Q (.exit j,S))(hj:Nat.beq j k=false:=by exact rfl):pV C f k Q (.exit j,S):=by have:j≠k:=fun e=>by{subst e;simp at hj};simpa[pV,this]using h
/-! ### Places where the state is told anew -/
theorem Su{S':ah}(hc:dn (C.oP f k) S=some S')(h:Q (.normal,S')):pV C f k Q (.exit k,S):=by simp only[pV,if_true];exact⟨S',hc,h⟩
def DU(σ:Type)(o:Option (Bool×List Nat))(rep:σ→ah)(oH:σ→Option ρ)(r:ρ)(Q:Exit×ah→Prop)(x:Exit×ah):Prop:=match x.1 with| .normal=>∃s,dn o x.2=some (rep s)∧oH s=some r|_=>Q x
theorem ek{σ:Type}(rep:σ→ah)(oH:σ→Option ρ)(ha:W C f call a S (DU σ (hG C f b) rep oH r Q))(hk:∀s,oH s=some r→W C f call b (rep s) Q):W C f call (.seq a b) S Q:=by refine sq ?_;obtain⟨⟨e,s⟩,h1,h2⟩:=ha;refine⟨_,h1, ?_⟩;cases e with|normal=>(obtain⟨s,h3,h4⟩:=h2;exact⟨_,h3,hk s h4⟩)|_=>exact h2
theorem bg{σ:Type}{o:Option (Bool×List Nat)}{rep:σ→ah}{oH:σ→Option ρ}(s:σ)(hF:oH s=some r)(hc:dn o S=some (rep s)):DU σ o rep oH r Q (.normal,S):=⟨s,hc,hF⟩
theorem ij{σ:Type}{o:Option (Bool×List Nat)}{rep:σ→ah}{oH:σ→Option ρ}(h:Q (.ret,S)):DU σ o rep oH r Q (.ret,S):=h
theorem ahJ{σ:Type}{o:Option (Bool×List Nat)}{rep:σ→ah}{oH:σ→Option ρ}(h:Q (.exit k,S)):DU σ o rep oH r Q (.exit k,S):=h
section
variable{σ:Type}{rep:σ→ah}{oH:σ→Option ρ}
end
/-! ### Regions -/
section
variable{K:List iI→ah→Prop}{ops:Array Oper}{i:Nat}{ks:List iI}
def r9(C:aF)(f:FuncId)(call:fO)(id:Nat)(ops:Array Oper)(draw:Bool)(S:ah)(Q:Exit×ah→Prop):Prop:=∃S',(oU C f call id ops draw S).bind (oQ C f id)=some S'∧Q (.normal,S')
def vz(C:aF)(f:FuncId)(id:Nat)(P:ah→Prop)(ks:List iI)(S:ah):Prop:=nZ (C.hU f id) ks=true∧P S
def vt(l:List Nat)(K:ah→Prop)(S:ah):Prop:=∃S',kO l S=some S'∧K S'
def mT(p:Nat)(lo xg:List Nat)(K:ah→Prop)(S:ah):Prop:=∃S',mg p lo S=some S'∧vt xg K S'
theorem w0{ops:Array Oper}{p5:Bool}(h:r9 C f call id ops p5 S Q)(ha:C.lE f id=[]:=by exact rfl):W C f call (.region id ops p5) S Q:=by obtain⟨S',h1,h2⟩:=h;exact⟨_,by simp[cq,ha,kO,h1],h2⟩
theorem TE{ops:Array Oper}{p5:Bool}(h:vt (C.lE f id) (fun fH=>r9 C f call id ops p5 fH Q) S):W C f call (.region id ops p5) S Q:=by obtain⟨fH,h0,S',h1,h2⟩:=h;exact⟨_,by simp[cq,h0,h1],h2⟩
theorem eZ{ops:Array Oper}{p5:Bool}(h:r9 C f call id ops p5 S fun x=>W C f call b x.2 Q)(ha:C.lE f id=[])(hk2:hG C f b=none):W C f call (.seq (.region id ops p5) b) S Q:=sq (w0 (by obtain⟨S',h1,h2⟩:=h;exact⟨S',h1,aQ h2 hk2⟩) ha)
theorem Ag{ops:Array Oper}{p5:Bool}(h:vt (C.lE f id) (fun fH=>r9 C f call id ops p5 fH fun x=>W C f call b x.2 Q) S)(hk2:hG C f b=none:=by exact rfl):W C f call (.seq (.region id ops p5) b) S Q:=sq (TE (by obtain⟨fH,h0,S',h1,h2⟩:=h;exact⟨fH,h0,S',h1,aQ h2 hk2⟩))
theorem N7(h:dI C f call ⟨l⟩ 0 l [] S fun _ S'=>Q (.normal,S'))(hk:C.jh f id=none:=by exact rfl)(hz:C.j6 f id=[]:=by exact rfl)(ho:C.iT f id=[]:=by exact rfl):r9 C f call id ⟨l⟩ false S Q:=by obtain⟨x,h1,h2⟩:=h;exact⟨_,by simp[oU,h1,hk,dn,oQ,hz,ho,kO,mg],h2⟩
theorem N9(h:dI C f call ⟨l⟩ 0 l [] S (vz C f id fun S'=>Q (.normal,S')))(hk:C.jh f id=none:=by exact rfl)(hz:C.j6 f id=[]:=by exact rfl)(ho:C.iT f id=[]:=by exact rfl):r9 C f call id ⟨l⟩ true S Q:=by obtain⟨x,h1,h2,h3⟩:=h;simp only[GT]at h2;exact⟨_,by simp[oU,h1,h2,hk,dn,oQ,hz,ho,kO,mg],h3⟩
theorem A7(h:dI C f call ⟨l⟩ 0 l [] S fun _ S'=>mT (1000+id) (C.iT f id) (C.j6 f id) (fun cU=>Q (.normal,cU)) S')(hk:C.jh f id=none:=by exact rfl):r9 C f call id ⟨l⟩ false S Q:=by obtain⟨x,h1,bE,h0,cU,h2,h3⟩:=h;exact⟨_,by simp[oU,h1,hk,dn,oQ,h0,h2],h3⟩
theorem yC(h:dI C f call ⟨l⟩ 0 l [] S (vz C f id fun S'=>mT (1000+id) (C.iT f id) (C.j6 f id) (fun cU=>Q (.normal,cU)) S'))(hk:C.jh f id=none:=by exact rfl):r9 C f call id ⟨l⟩ true S Q:=by obtain⟨x,h1,h4,bE,h0,cU,h2,h3⟩:=h;simp only[GT]at h4;exact⟨_,by simp[oU,h1,h4,hk,dn,oQ,h0,h2],h3⟩
theorem rg(h:dI C f call ⟨l⟩ 0 l [] S fun _ S'=>Q (.normal,S'))(hk:C.jh f id=none:=by exact rfl)(hz:C.j6 f id=[]:=by exact rfl)(ho:C.iT f id=[]:=by exact rfl)(ha:C.lE f id=[]:=by exact rfl):W C f call (.region id ⟨l⟩ false) S Q:=w0 (N7 h hk hz ho) ha
theorem SM(h:dI C f call ⟨l⟩ 0 l [] S (vz C f id fun S'=>Q (.normal,S')))(hk:C.jh f id=none:=by exact rfl)(hz:C.j6 f id=[]:=by exact rfl)(ho:C.iT f id=[]:=by exact rfl)(ha:C.lE f id=[]:=by exact rfl):W C f call (.region id ⟨l⟩ true) S Q:=w0 (N9 h hk hz ho) ha
theorem ag(h:dI C f call ⟨l⟩ 0 l [] S fun _ S'=>W C f call b S' Q)(hk:C.jh f id=none:=by exact rfl)(hz:C.j6 f id=[]:=by exact rfl)(ho:C.iT f id=[]:=by exact rfl)(ha:C.lE f id=[]:=by exact rfl)(hk2:hG C f b=none:=by exact rfl):W C f call (.seq (.region id ⟨l⟩ false) b) S Q:=eZ (N7 h hk hz ho) ha hk2
theorem gz(h:dI C f call ⟨l⟩ 0 l [] S (vz C f id fun S'=>W C f call b S' Q))(hk:C.jh f id=none:=by exact rfl)(hz:C.j6 f id=[]:=by exact rfl)(ho:C.iT f id=[]:=by exact rfl)(ha:C.lE f id=[]:=by exact rfl)(hk2:hG C f b=none:=by exact rfl):W C f call (.seq (.region id ⟨l⟩ true) b) S Q:=eZ (N9 h hk hz ho) ha hk2
theorem fE(h:dI C f call ⟨l⟩ 0 l [] S fun _ S'=>mT (1000+id) (C.iT f id) (C.j6 f id) (fun cU=>Q (.normal,cU)) S')(hk:C.jh f id=none:=by exact rfl)(ha:C.lE f id=[]:=by exact rfl):W C f call (.region id ⟨l⟩ false) S Q:=w0 (A7 h hk) ha
theorem Lv(h:dI C f call ⟨l⟩ 0 l [] S (vz C f id fun S'=>mT (1000+id) (C.iT f id) (C.j6 f id) (fun cU=>Q (.normal,cU)) S'))(hk:C.jh f id=none:=by exact rfl)(ha:C.lE f id=[]:=by exact rfl):W C f call (.region id ⟨l⟩ true) S Q:=w0 (yC h hk) ha
theorem bI(h:dI C f call ⟨l⟩ 0 l [] S fun _ S'=>mT (1000+id) (C.iT f id) (C.j6 f id) (fun cU=>W C f call b cU Q) S')(hk:C.jh f id=none:=by exact rfl)(ha:C.lE f id=[]:=by exact rfl)(hk2:hG C f b=none:=by exact rfl):W C f call (.seq (.region id ⟨l⟩ false) b) S Q:=eZ (A7 h hk) ha hk2
theorem nD(h:dI C f call ⟨l⟩ 0 l [] S (vz C f id fun S'=>mT (1000+id) (C.iT f id) (C.j6 f id) (fun cU=>W C f call b cU Q) S'))(hk:C.jh f id=none:=by exact rfl)(ha:C.lE f id=[]:=by exact rfl)(hk2:hG C f b=none:=by exact rfl):W C f call (.seq (.region id ⟨l⟩ true) b) S Q:=eZ (yC h hk) ha hk2
theorem aE{p:Nat}{K:ah→Prop}{lo xg:List Nat}(k:vt xg K S)(hl:lo=[]:=by exact rfl):mT p lo xg K S:=by subst hl;exact⟨_,rfl,k⟩
theorem aG{p:Nat}{K:ah→Prop}{S':ah}{lo xg:List Nat}(s:Nat)(sl:List Nat)(he:qv p S s=some S')(k:mT p sl xg K S')(hl:lo=s::sl:=by exact rfl):mT p lo xg K S:=by subst hl;obtain⟨cU,h1,h2⟩:=k;exact⟨cU,by simp only[mg,he,Do];exact h1,h2⟩
theorem agD{p s row off:Nat}{id:Id}{r r':List U}{x:Id×Option Rows}{wr:List (Id×Option Rows)}(hs:t s= .mp id row off)(hid:h id=some (some [r]))(hu:bM [p,s] 0 r=(r',x::wr))(JI:AC s n=true)(hf:fresh h (x::wr)=true):qv p ⟨n,t,h⟩ s=some ⟨n,t,bk h ((id,some [r'])::x::wr)⟩:=by have hs':s<n:=of_decide_eq_true (by simp[AC]at JI⊢;omega);simp only[qv,hs,hid,hu,List.isEmpty_cons,Bool.false_eq_true,if_false];rw[if_pos ⟨hs',hf⟩]
theorem aB{K:ah→Prop}{l:List Nat}(k:K S)(hl:l=[]:=by exact rfl):vt l K S:=by subst hl;exact⟨_,rfl,k⟩
theorem wm{K:ah→Prop}{S':ah}{l:List Nat}(s:Nat)(sl:List Nat)(he:nk S s=some S')(k:vt sl K S')(hl:l=s::sl:=by exact rfl):vt l K S:=by subst hl;obtain⟨cU,h1,h2⟩:=k;exact⟨cU,by simp only[kO,he,Do];exact h1,h2⟩
theorem nl(h:K ks S):dI C f call ops i [] ks S K:=⟨_,rfl,by simpa using h⟩
def ot(ks:List iI):Bool:=ks.all fun k=>k.2.2.isEmpty
theorem qi(hU:List (Nat×Nat)):∀ks:List iI,ot ks=true→nZ hU ks=true|[],_=>rfl|x::l,hk=>by simp only[ot,List.all_cons,Hd]at hk;have h1:=qi hU l hk.2;simp only[nZ,h1,Bool.and_true,Ha,Bool.or_eq_true];intro y hy;right;have h2:=List.all_eq_true.1 hk.2 y hy;simp only[List.isEmpty_iff]at hk h2;simp[su,hk.1,h2]
theorem ah9{a b:List iI}(h:ot a=true)(k:ot b=true):ot (a++b)=true:=by simp only[ot,List.all_append,Hd]at*;exact⟨h,k⟩
theorem Af{hU:List (Nat×Nat)}{ks:List iI}(h:ot ks=true:=by repeat'(first|apply ah9|assumption|exact rfl)):nZ hU ks=true:=qi hU ks h
theorem z6(a b:List iI):ot (a++b)=(ot a&&ot b):=by simp[ot]
theorem dF{P:ah→Prop}(h:P S)(hf:nZ (C.hU f id) ks=true:=by first|exact rfl|exact qi _ _ rfl|(apply qi;simp[z6, *];done)|(apply qi;simp only[z6,Bool.and_eq_true];(repeat' constructor)<;>first|assumption|rfl)):dI C f call ops i [] ks S (vz C f id P):=⟨_,rfl,by simpa using hf,h⟩
def vw(σ:Type)(C:aF)(f:FuncId)(id:Nat)(draw:Bool)(rep:σ→ah)(x:σ)(ks:List iI)(S:ah):Prop:=(draw=true→nZ (C.hU f id) ks=true)∧mT (1000+id) (C.iT f id) (C.j6 f id) (fun cU=>dn (C.jh f id) cU=some (rep x)) S
theorem N8{σ:Type}{draw:Bool}{A:Option σ}{pR:σ→Option ρ}(rep:σ→ah)(hF:A.bind pR=some r)(k1:∀x,A=some x→dI C f call ⟨l⟩ 0 l [] S (vw σ C f id draw rep x))(k2:∀x,pR x=some r→Q (.normal,rep x)):r9 C f call id ⟨l⟩ draw S Q:=by obtain⟨x,h1,h2⟩:=Ee hF;obtain⟨y,h3,h4,bE,h5,cU,h6,h7⟩:=k1 x h1;simp only[GT]at h4;refine⟨rep x, ?_,k2 x h2⟩;simp only[oU,h3,Do];cases draw with|false=>(simp[oQ,h5,h6,h7])|true=>simp[h4 rfl,oQ,h5,h6,h7]
theorem Lu{σ:Type}{draw:Bool}{A:Option σ}{pR:σ→Option ρ}(rep:σ→ah)(hF:A.bind pR=some r)(k1:∀x,A=some x→dI C f call ⟨l⟩ 0 l [] S (vw σ C f id draw rep x))(k2:∀x,pR x=some r→Q (.normal,rep x))(ha:C.lE f id=[]:=by exact rfl):W C f call (.region id ⟨l⟩ draw) S Q:=w0 (N8 rep hF k1 k2) ha
theorem dZ{σ:Type}{draw:Bool}{A:Option σ}{pR:σ→Option ρ}(rep:σ→ah)(hF:A.bind pR=some r)(k1:∀x,A=some x→dI C f call ⟨l⟩ 0 l [] S (vw σ C f id draw rep x))(k2:∀x,pR x=some r→W C f call b (rep x) Q)(ha:C.lE f id=[]:=by exact rfl)(hk2:hG C f b=none:=by exact rfl):W C f call (.seq (.region id ⟨l⟩ draw) b) S Q:=eZ (N8 rep hF k1 k2) ha hk2
theorem qs{σ:Type}{rep:σ→ah}{x:σ}(h:mT (1000+id) (C.iT f id) (C.j6 f id) (fun cU=>dn (C.jh f id) cU=some (rep x)) S):dI C f call ops i [] ks S (vw σ C f id false rep x):=⟨_,rfl,And.intro (fun e=>Bool.noConfusion e) h⟩
theorem aff{σ:Type}{rep:σ→ah}{x:σ}(h:mT (1000+id) (C.iT f id) (C.j6 f id) (fun cU=>dn (C.jh f id) cU=some (rep x)) S)(hf:nZ (C.hU f id) ks=true:=by first|exact rfl|exact qi _ _ rfl|(apply qi;simp[z6, *];done)|(apply qi;simp only[z6,Bool.and_eq_true];(repeat' constructor)<;>first|assumption|rfl)):dI C f call ops i [] ks S (vw σ C f id true rep x):=⟨_,rfl,And.intro (fun _=>by simpa using hf) h⟩
theorem bT{σ:Type}{rep:σ→ah}{x:σ}(hc:dn (C.jh f id) S=some (rep x))(hz:C.j6 f id=[]:=by exact rfl)(ho:C.iT f id=[]:=by exact rfl):dI C f call ops i [] ks S (vw σ C f id false rep x):=qs (by rw[hz,ho];exact⟨_,rfl,_,rfl,hc⟩)
theorem qq{σ:Type}{rep:σ→ah}{x:σ}(hc:dn (C.jh f id) S=some (rep x))(hf:nZ (C.hU f id) ks=true:=by first|exact rfl|exact qi _ _ rfl|(apply qi;simp[z6, *];done)|(apply qi;simp only[z6,Bool.and_eq_true];(repeat' constructor)<;>first|assumption|rfl))(hz:C.j6 f id=[]:=by exact rfl)(ho:C.iT f id=[]:=by exact rfl):dI C f call ops i [] ks S (vw σ C f id true rep x):=aff (by rw[hz,ho];exact⟨_,rfl,_,rfl,hc⟩) hf
variable{d:Nat}{ty:TypeId}{pos:String}{aV:Array Edge}{bD:Option (Nat×Bool)}{op:Op}{v:U}{g:Bool}
theorem acI(i:Nat)(e:bn)(l:List iI):hkey i e l=hkey i e []++l:=by unfold hkey;split<;>simp
theorem xE{o:Oper}{e:bn}(he:tU C f call S ops o=some e)(hs:(e.dA.all fun x=>decide (x.1<S.n))=true)(k:dI C f call ops (i+1) l (ks++hkey i e []) (S.app e) K):dI C f call ops i (o::l) ks S K:=by obtain⟨x,h1,h2⟩:=k;refine⟨(x.1,hkey i e x.2), ?_, ?_⟩;·{simp only[lW,he,Do];rw[if_pos hs,h1];rfl};·rw[acI];simpa using h2
theorem lU{d n:Nat}(h:AC d n=true):decide (d<n)=true:=by simp[AC]at h⊢;omega
theorem pp(he:bC C f call ⟨n,t,h⟩ true ⟨some d,op,ty,pos,aV,none⟩=some ⟨[(d,v)],[],[]⟩)(k:dI C f call ops (i+1) l ks ⟨n,ak t d v,h⟩ K)(hs:AC d n=true:=by exact rfl):dI C f call ops i (⟨some d,op,ty,pos,aV,none⟩::l) ks ⟨n,t,h⟩ K:=xE (e:=⟨[(d,v)],[],[]⟩) he (by simpa using lU hs) (by simpa[hkey,ah.app]using k)
theorem rr{y:Id}{rd:List Id}(he:bC C f call ⟨n,t,h⟩ true ⟨some d,op,ty,pos,aV,none⟩=some ⟨[(d,v)],y::rd,[]⟩)(k:dI C f call ops (i+1) l (ks++[(i,y::rd,[])]) ⟨n,ak t d v,h⟩ K)(hs:AC d n=true:=by exact rfl):dI C f call ops i (⟨some d,op,ty,pos,aV,none⟩::l) ks ⟨n,t,h⟩ K:=xE (e:=⟨[(d,v)],y::rd,[]⟩) he (by simpa using lU hs) (by simpa[hkey,ah.app]using k)
theorem ww{uO:Option Nat}{dA:List (Nat×U)}{rd:List Id}{x:Id×Option Rows}{wr:List (Id×Option Rows)}(he:bC C f call ⟨n,t,h⟩ true ⟨uO,op,ty,pos,aV,none⟩=some ⟨dA,rd,x::wr⟩)(k:dI C f call ops (i+1) l (ks++[(i,rd,(x::wr).map (·.1))]) ⟨n,cT t dA,bk h (x::wr)⟩ K)(hs:(dA.all fun x=>AC x.1 n)=true:=by exact rfl):dI C f call ops i (⟨uO,op,ty,pos,aV,none⟩::l) ks ⟨n,t,h⟩ K:=xE (e:=⟨dA,rd,x::wr⟩) he (by rw[Ha]at hs⊢;exact fun y hy=>lU (hs y hy)) (by simpa[hkey,ah.app]using k)
theorem aq{j:Nat}{wt:Bool}{l0:List Oper}(hg:sI wt ⟨n,t,h⟩ (oT l0 j)=some g)(he:bC C f call ⟨n,t,h⟩ g ⟨some d,op,ty,pos,aV,some (j,wt)⟩=some ⟨[(d,v)],[],[]⟩)(k:dI C f call ⟨l0⟩ (i+1) l ks ⟨n,ak t d (.c8 g v),h⟩ K)(hs:AC d n=true:=by exact rfl):dI C f call ⟨l0⟩ i (⟨some d,op,ty,pos,aV,some (j,wt)⟩::l) ks ⟨n,t,h⟩ K:=xE (e:=⟨[(d, .c8 g v)],[],[]⟩) (by rw[Ey,hg,Em,EA,he];rfl) (by simpa using lU hs) (by simpa[hkey,ah.app]using k)
theorem ah2{j:Nat}{wt:Bool}{l0:List Oper}{y:Id}{rd:List Id}(hg:sI wt ⟨n,t,h⟩ (oT l0 j)=some g)(he:bC C f call ⟨n,t,h⟩ g ⟨some d,op,ty,pos,aV,some (j,wt)⟩=some ⟨[(d,v)],y::rd,[]⟩)(k:dI C f call ⟨l0⟩ (i+1) l (ks++[(i,y::rd,[])]) ⟨n,ak t d (.c8 g v),h⟩ K)(hs:AC d n=true:=by exact rfl):dI C f call ⟨l0⟩ i (⟨some d,op,ty,pos,aV,some (j,wt)⟩::l) ks ⟨n,t,h⟩ K:=xE (e:=⟨[(d, .c8 g v)],y::rd,[]⟩) (by rw[Ey,hg,Em,EA,he];rfl) (by simpa using lU hs) (by simpa[hkey,ah.app]using k)
theorem pt{j:Nat}{wt:Bool}{l0:List Oper}(hg:sI wt ⟨n,t,h⟩ (oT l0 j)=some true)(he:bC C f call ⟨n,t,h⟩ true ⟨some d,op,ty,pos,aV,some (j,wt)⟩=some ⟨[(d,v)],[],[]⟩)(k:dI C f call ⟨l0⟩ (i+1) l ks ⟨n,ak t d (.c8 true v),h⟩ K)(hs:AC d n=true:=by exact rfl):dI C f call ⟨l0⟩ i (⟨some d,op,ty,pos,aV,some (j,wt)⟩::l) ks ⟨n,t,h⟩ K:=aq hg he k hs
theorem Gn{j:Nat}{wt:Bool}{l0:List Oper}{y:Id}{rd:List Id}(hg:sI wt ⟨n,t,h⟩ (oT l0 j)=some true)(he:bC C f call ⟨n,t,h⟩ true ⟨some d,op,ty,pos,aV,some (j,wt)⟩=some ⟨[(d,v)],y::rd,[]⟩)(k:dI C f call ⟨l0⟩ (i+1) l (ks++[(i,y::rd,[])]) ⟨n,ak t d (.c8 true v),h⟩ K)(hs:AC d n=true:=by exact rfl):dI C f call ⟨l0⟩ i (⟨some d,op,ty,pos,aV,some (j,wt)⟩::l) ks ⟨n,t,h⟩ K:=ah2 hg he k hs
theorem DA{j:Nat}{wt:Bool}{l0:List Oper}{dA:List (Nat×U)}{rd:List Id}{x:Id×Option Rows}{wr:List (Id×Option Rows)}{uO:Option Nat}(hg:sI wt ⟨n,t,h⟩ (oT l0 j)=some true)(he:bC C f call ⟨n,t,h⟩ true ⟨uO,op,ty,pos,aV,some (j,wt)⟩=some ⟨dA,rd,x::wr⟩)(k:dI C f call ⟨l0⟩ (i+1) l (ks++[(i,rd,(x::wr).map (·.1))]) ⟨n,cT t dA,bk h (x::wr)⟩ K)(hs:(dA.all fun x=>AC x.1 n)=true:=by exact rfl):dI C f call ⟨l0⟩ i (⟨uO,op,ty,pos,aV,some (j,wt)⟩::l) ks ⟨n,t,h⟩ K:=xE (e:=⟨dA,rd,x::wr⟩) (by rw[Ey,hg,Em,EA,he];rfl) (by rw[Ha]at hs⊢;exact fun y hy=>lU (hs y hy)) (by simpa[hkey,ah.app]using k)
theorem gf{wt:Bool}{d:Nat}{u:U}{uO:Option Nat}(hd:uO=some d:=by exact rfl)(h:S.t d= .c8 false u:=by exact rfl):sI wt S uO=some false:=by subst hd;rw[Pq,h];cases u with|val v=>(cases v<;>simp[yQ])|_=>rfl
theorem no{d:Nat}{j:Nat}{wt:Bool}{l0:List Oper}(k:∀u ks',ot ks'=true→dI C f call ⟨l0⟩ (i+1) l (ks++ks') ⟨n,ak t d (.c8 false u),h⟩ K)(hg:sI wt ⟨n,t,h⟩ (oT l0 j)=some false:=by first|exact gf|exact rfl)(hs:AC d n=true:=by exact rfl):dI C f call ⟨l0⟩ i (⟨some d,op,ty,pos,aV,some (j,wt)⟩::l) ks ⟨n,t,h⟩ K:=by have hj:∀(v:U)(rd:List Id),tU C f call ⟨n,t,h⟩ ⟨l0⟩ ⟨some d,op,ty,pos,aV,some (j,wt)⟩=some ⟨[(d, .c8 false v)],rd,[]⟩→dI C f call ⟨l0⟩ i (⟨some d,op,ty,pos,aV,some (j,wt)⟩::l) ks ⟨n,t,h⟩ K:=fun v rd he=>xE he (by simpa using lU hs) (by have:=k v (hkey i ⟨[(d, .c8 false v)],rd,[]⟩ []) (by unfold hkey ot;split<;>simp);simpa[ah.app,cT]using this);rw[Ey,hg,Em,EA]at hj;cases he:bC C f call ⟨n,t,h⟩ false ⟨some d,op,ty,pos,aV,some (j,wt)⟩with|none=>(exact hj .bp [] (by rw[he];rfl))|some e=>obtain⟨dA,rd,wr⟩:=e;cases wr with|cons x wr=>(exact hj .bp [] (by rw[he];rfl))|nil=>rcases LM he with⟨v,hv⟩|⟨hv,_⟩;·{simp only[put]at hv;subst hv;exact hj v rd (by rw[he];rfl)};·exact absurd rfl hv
theorem c7{A B:Option ρ}{d:Nat}{p:Bool}(hF:(if p=true then A else B)=some r)(h1:A=some r→dI C f call ops i l ks ⟨n,ak t d (.val (.bool true)),h⟩ K)(h2:B=some r→dI C f call ops i l ks ⟨n,ak t d (.val (.bool false)),h⟩ K)(hd:t d= .val (.bool p):=by exact rfl):dI C f call ops i l ks ⟨n,t,h⟩ K:=by have e:∀q,t d= .val (.bool q)→ak t d (.val (.bool q))=t:=fun q hq=>by{funext j;unfold ak;split;·{rename_i hj;subst hj;exact hq.symm};·rfl};cases p with|true=>(have:=h1 (by simpa using hF);rwa[e _ hd]at this)|false=>have:=h2 (by simpa using hF);rwa[e _ hd]at this
theorem ow{A B:Option ρ}{d:Nat}{p:Bool}(hF:(if p=true then A else B)=some r)(h1:A=some r→dI C f call ops i l ks ⟨n,ak t d (.c8 true (.val (.bool true))),h⟩ K)(h2:B=some r→dI C f call ops i l ks ⟨n,ak t d (.c8 true (.val (.bool false))),h⟩ K)(hd:t d= .c8 true (.val (.bool p)):=by exact rfl):dI C f call ops i l ks ⟨n,t,h⟩ K:=by have e:∀q,t d= .c8 true (.val (.bool q))→ak t d (.c8 true (.val (.bool q)))=t:=fun q hq=>by{funext j;unfold ak;split;·{rename_i hj;subst hj;exact hq.symm};·rfl};cases p with|true=>(have:=h1 (by simpa using hF);rwa[e _ hd]at this)|false=>have:=h2 (by simpa using hF);rwa[e _ hd]at this
end
end
end Go.Ab
