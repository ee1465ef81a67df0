import Derived.Test.YtbbhbdlljfffdaaGreatDoorAbV3
open Bool renaming false_eq_true→Do
open Nat renaming le_of_ble_eq_true→GT
open Option renaming bind_some→AC,map_some→GE,bind_eq_some_iff→Ha,bind→Hb
set_option linter.all false
namespace Go.Ab
open Go
def Ba{α:Type}(a b:List α):Option Unit:=if a.length=b.length then some ()else none
theorem Zp{α:Type}{a b:List α}{u:Unit}(h:Ba a b=some u):a.length=b.length:=by unfold Ba at h;split at h;·{(first|(with_reducible assumption)|assumption)};·cases h
section
variable{L:Id→Option (Option Rows)}{id:Id}{cs old as bs args:List U}{n m:Nat}{α:Type}{c:α→List U}{q q0:List α}{w w2:List (Id×Option Rows)}{a b:U}{j:Nat}{l:List Nat}
theorem ail(ha:a= .mp id 0 0:=by exact rfl)(hb:b= .aU cs:=by exact rfl)(hh:L id=some (some [old]):=by exact rfl)(hl:cs.length=old.length:=by exact rfl):ju L a b=some [(id,some [cs])]:=by subst ha hb;simp[ju,hh,hl]
theorem aim(hlen:q.length=q0.length)(ha:a= .rs id 0 m:=by exact rfl)(hb:b= .own (q.map c) q.length:=by exact rfl)(hh:L id=some (some (q0.map c)):=by exact rfl)(hm:m=q0.length:=by exact uG)(hn:∀x,(c x).length=n:=by exact fun _=>rfl):ju L a b=some [(id,some (q.map c))]:=by subst ha hb hm;cases q0 with|nil=>(obtain rfl:q=[]:=List.length_eq_zero_iff.1 hlen;simp only[List.map_nil]at hh;simp[ju,hh])|cons x q0=>simp only[List.map_cons]at hh;simp only[ju,hh];rw[if_pos ⟨by simpa using hlen,by simpa using hlen,by simp,by simp[hn]⟩]
theorem ain{r:Rows}(ha:a= .sl r:=by exact rfl):ju L a b=some []:=by subst ha;rfl
theorem ahN(ha:as=[]:=by exact rfl)(hb:bs=[]:=by exact rfl):jO L as bs=some []:=by subst ha hb;rfl
theorem ahM(ha:cs=a::as)(hb:old=b::bs)(h1:ju L a b=some w)(h2:jO L as bs=some w2):jO L cs old=some (w++w2):=by subst ha hb;simp[jO,h1,h2]
theorem aik(hn:(match a with| .agg _=>false|_=>true)=true)(h:ju L a b=some w):rO L a b=some w:=by cases a<;>first|exact h|cases hn
theorem ah4(hb:bs=[]:=by exact rfl):gO L args [] bs=some []:=by subst hb;rfl
theorem ah3(hb:old=b::bs)(ha:args[j]? =some a)(h1:rO L a b=some w)(h2:gO L args l bs=some w2):gO L args (j::l) old=some (w++w2):=by subst hb;simp[gO,ha,h1,h2]
theorem rlk{y:Option (List (Id×Option Rows))}(h:gO L args l bs=y:=by repeat'(first|exact ah4|exact ail|exact amW|exact ain|exact aim (by(first|(with_reducible assumption)|assumption))|exact ahN|(apply ahM;exact rfl;exact rfl)|(apply amV;exact rfl;exact rfl)|(apply aik;exact rfl)|(apply ah3;exact rfl;exact rfl))):gO L args l bs=y:=h
end
section
variable{C:aF}{f:FuncId}{call:fO}{S:ah}{g:Bool}
variable{d:Nat}{ty:TypeId}{pos:String}{aV:Array Edge}{bD:Option (Nat×Bool)}{v v':U}
theorem uK{xs:Array Operand}{ts:Array TypeId}{dr:FuncId}{ms ct:List Nat}{args outs:List U}{seen tk dj:List Id}{r:U}{back jR wr:List (Id×Option Rows)}(hc:call dr args=some (r,outs))(hm:C.xk dr=ms:=by exact rfl)(hm0:ms.isEmpty=false:=by exact rfl)(hle:C.ct dr=ct:=by exact rfl)(ht:jP S.h ms (xs.toList.map fun x=>un g (S.get C x))=some (args,seen,tk,dj):=by exact Tq)(hz:(C.eD f).contains d=false:=by exact rfl)(hb:gO S.h (xs.toList.map fun x=>un g (S.get C x)) ct outs=some back:=by exact rlk)(h1:(dQ (tk++dj)&&sr seen (tk++dj))=true:=by exact rfl)(h2:(seen.isEmpty||mine r&&outs.all mine)=true:=by first|exact rfl|exact aa7 Fx aeX)(h3:(dQ (back.map (·.1))&&(back.all fun x=>tk.contains x.1))=true:=by exact rfl)(hi:imp [d] r=(v',jR):=by exact wZ)(hf:fresh S.h jR=true:=by exact rfl)(hw:jR++(back++(tk++dj).map fun i=>(i,none))=wr:=by exact spine)(n4:C.path dr=none:=by exact rfl)(dY:C.gU dr=false:=by exact rfl):bC C f call S g ⟨some d, .call ⟨.value (.func dr),xs,ts⟩,ty,pos,aV,bD⟩=some ⟨[(d,v')],seen,wr⟩:=NP hm hm0 hle ht hc (v:=r) (by simp only[eK,hz,Do,if_false]) hb h1 h2 h3 hi hf hw n4 dY
theorem FM{xs:Array Operand}{ts:Array TypeId}{dr:FuncId}{ms ct:List Nat}{args outs:List U}{seen tk dj:List Id}{r:U}{back jR wr:List (Id×Option Rows)}(hc:call dr args=some (r,outs))(hm:C.xk dr=ms:=by exact rfl)(hm0:ms.isEmpty=false:=by exact rfl)(hle:C.ct dr=ct:=by exact rfl)(ht:jP S.h ms (xs.toList.map fun x=>un g (S.get C x))=some (args,seen,tk,dj):=by exact Tq)(hz:(C.eD f).contains d=true:=by exact rfl)(hv:dJ r=v:=by exact Br)(hb:gO S.h (xs.toList.map fun x=>un g (S.get C x)) ct outs=some back:=by exact rlk)(h1:(dQ (tk++dj)&&sr seen (tk++dj))=true:=by exact rfl)(h2:(seen.isEmpty||mine r&&outs.all mine)=true:=by first|exact rfl|exact aa7 Fx aeX)(h3:(dQ (back.map (·.1))&&(back.all fun x=>tk.contains x.1))=true:=by exact rfl)(hi:imp [d] v=(v',jR):=by exact wZ)(hf:fresh S.h jR=true:=by exact rfl)(hw:jR++(back++(tk++dj).map fun i=>(i,none))=wr:=by exact spine)(n4:C.path dr=none:=by exact rfl)(dY:C.gU dr=false:=by exact rfl):bC C f call S g ⟨some d, .call ⟨.value (.func dr),xs,ts⟩,ty,pos,aV,bD⟩=some ⟨[(d,v')],seen,wr⟩:=NP hm hm0 hle ht hc (v:=v) (by simp only[eK,hz,if_true,hv]) hb h1 h2 h3 hi hf hw n4 dY
end
theorem fQ{C:aF}{f:FuncId}{a b:Nat}{args:List U}{r:Option (U×List U)}(h:den C a f args=r)(e:a=b):den C b f args=r:=e▸h
/-! ### Functions -/
def uT:List U→U|[r]=>r|vs=> .aT vs
def Fin(C:aF)(rv:List ResultVar)(ct:List Nat)(r:U)(outs:List U)(x:Exit×ah):Prop:=(x.1= .ret∨x.1= .normal)∧∃vs ids is,kH C x.2 rv=some (vs,ids)∧jN x.2.h x.2.t ct=some (outs,is)∧dQ (ids++is)=true∧uT vs=r
section
variable{C:aF}{f:FuncId}{call:fO}{S:ah}{T:TypeId}
variable{rv:List ResultVar}{ct:List Nat}{vs outs cs r:List U}{ids is:List Id}{v v':U}
theorem aie:kH C S []=some ([],[]):=rfl
theorem aih{t:Nat}(h:pk S.h 9 (un true (S.t t))=some (v,ids))(hr:kH C S rv=some (vs,is)):kH C S (.tmp t::rv)=some (v::vs,ids++is):=by show(uZ C S (.tmp t)).bind _=_;simp only[uZ,h,AC,hr,GE]
theorem aif{a m:Nat}{id:Id}{bb:Bool}[ha:cR C T bb m](hx:un true (S.t a)= .mp id 0 0)(hh:S.h id=some (some [r]))(hl:Nat.ble m r.length=true)(hv:iR bb (r.take m)=some v)(h:pk S.h 9 v=some (v',ids))(hr:kH C S rv=some (vs,is)):kH C S (.cell a T::rv)=some (v'::vs,id::ids++is):=by show(uZ C S (.cell a T)).bind _=_;have hl':0+m≤r.length:=by{have:=GT hl;omega};simp only[uZ,ha.jZ,ha.sz,hx,hh,List.getElem?_cons_zero,if_pos hl',List.drop_zero,hv,AC,h,hr,GE]
theorem FB{cells:List U}(hc:cells=[v]):iR false cells=some v:=by subst hc;rfl
theorem FA{cells:List U}(hc:cells=cs:=by exact spine):iR true cells=some (.agg cs):=by subst hc;rfl
theorem LD{y:Option (List U×List Id)}(h:kH C S rv=y:=by repeat'(first|with_reducible exact aie|((with_reducible apply aih);exact mh)|((with_reducible apply aif);exact rfl;exact rfl;exact rfl;(first|exact FA|exact FB rfl);exact mh)|((with_reducible apply amU);exact rfl;exact rfl;(first|exact FA|exact FB rfl);exact mh))):kH C S rv=y:=h
theorem fin{r:U}(h:kH C S rv=some (vs,ids):=by exact LD)(hp:jN S.h S.t ct=some (outs,is):=by exact Ga)(hn:dQ (ids++is)=true:=by exact rfl)(hr:uT vs=r:=by exact rfl):Fin C rv ct r outs (.ret,S):=⟨.inl rfl,vs,ids,is,h,hp,hn,hr⟩
theorem cH{fn:Func}{c:Code}{args:List U}{nn N:Nat}{r:U}{t:Nat→U}{h:Id→Option (Option Rows)}{sl:List Nat}(hf:C.P.funcs[f]? =some fn)(hn:fn.ntmps=N)(hr:fn.results.toList=rv)(k:W C f (den C nn) c ⟨N,t,h⟩ (Fin C rv ct r outs))(hb:fn.body=some c:=by exact rfl)(he:C.ext f=none:=by exact rfl)(hle:C.ct f=ct:=by exact rfl)(hl:Nat.ble args.length N=true:=by exact rfl)(j9:List.range args.length=sl:=by exact rfl)(hm:aO N sl args=⟨N,t,h⟩:=by exact FC)(dY:C.gU f=false:=by exact rfl):den C (nn+1) f args=some (r,outs):=by obtain⟨⟨e,s⟩,h1,h2,vs,ids,is,h3,h6,h4,h5⟩:=k;subst hr hn hle j9;show q4 C (den C nn) jJ f args=_;unfold q4;simp only[he,hf,hb,dY,Do,if_false,if_pos (GT hl),hm,h1,AC];have cW:finish C fn (C.ct f) args s=some (r,outs):=by{unfold finish;simp only at h3 h6;rw[h3,h6];simp only[h4,if_true];rw[←h5];congr 2;cases vs with|nil=>(rfl)|cons a l=>cases l<;>rfl};rcases h2 with h2|h2;·{simp only at h2;subst h2;exact cW};·simp only at h2;subst h2;exact cW
end
/-! ### Loops -/
def cP.go{bQ ρ ρ':Type}(kb:bQ→Option ρ)(pg:ρ'→Option ρ):cP bQ ρ'→Option ρ| .dy x=>kb x| .ret r=>pg r
section
variable{C:aF}{f:FuncId}{call:fO}{S:ah}{Q:Exit×ah→Prop}{c:Code}{σ bQ ρ ρ':Type}{r:ρ}{k:Nat}{o:Option (Bool×List Nat)}{rep:σ→ah}[jT]
def vC(o:Option (Bool×List Nat))(rep:σ→ah)(Rel:bQ→Exit×ah→Prop)(y:cG σ bQ)(x:Exit×ah):Prop:=match y with| .next s'=>x.1= .normal∧dn o x.2=some (rep s')| .out v=>x.1≠ .normal∧Rel v x
def uh(C:aF)(f:FuncId)(c:Code):Option (Bool×List Nat):=match mE c with|some i=>some (C.shr f i,C.live f i)|none=>some (false,[])
theorem Q5{step:σ→Option (cG σ bQ)}(Rel:bQ→Exit×ah→Prop){eZ:σ}{v:bQ}(hL:Loop step eZ=some v)(h0:dn (uh C f c) S=some (rep eZ))
  (body:∀s y,step s=some y→W C f call c (rep s) (vC (uh C f c) rep Rel y)):∃x,cq C f call jJ (.loop c) S=some x∧Rel v x:=by
 obtain⟨m,hm⟩:=GM hL
 have key:∀(b:Bool)(slots:List Nat),uh C f c=some (b,slots)→(match mE c with|some i=>C.live f i|none=>[])=slots→(match mE c with|some i=>C.shr f i|none=>false)=b→∃x,cq C f call jJ (.loop c) S=some x∧Rel v x:=by
  intro b slots hk hs hb
  rw[hk]at h0 body
  cases b with
  |true=>
   have key:∀m s,LoopN step m s=some v→∃x,jJ ah (fun S'=>cq C f call jJ c S') (fun S'=>norm S' slots) (rep s)=some x∧Rel v x:=by
    intro m
    induction m with
    |zero=>intro s h;simp[LoopN]at h
    |succ m ih=>
     intro s h
     simp only[LoopN,Ha]at h
     obtain⟨y,h1,h2⟩:=h
     obtain⟨⟨e,S'⟩,h3,h4⟩:=body s y h1
     rw[Q6]
     simp only[h3,AC]
     cases y with
     |next s'=>
      obtain⟨rfl,h5⟩:=h4
      have h5:norm S' slots=some (rep s'):=h5
      simp only[h5,AC]
      exact ih s' h2
     |out o'=>
      obtain⟨h5,h6⟩:=h4
      obtain rfl:o'=v:=by simpa using h2
      cases e with
      |normal=>exact absurd rfl h5
      |_=>exact⟨_,rfl,h6⟩
   obtain⟨x,h3,h4⟩:=key m eZ hm
   refine⟨x, ?_,h4⟩
   subst hs
   simp only[cq]
   refine(if_pos hb).trans ?_
   exact(congrArg (Hb · _) (show norm S _=some (rep eZ)from h0)).trans h3
  |false=>
   have h0:(jv S slots).map (aO S.n slots)=some (rep eZ):=h0
   obtain⟨ajb,aa4,aa5⟩:=Option.map_eq_some_iff.1 h0
   have hn:∀s,(∃pI,aO S.n slots pI=rep s)→(rep s).n=S.n:=fun s⟨pI,h⟩=>by rw[←h,zJ]
   have key:∀m s pI,aO S.n slots pI=rep s→LoopN step m s=some v→∃x,jJ (List U) (fun cj=>cq C f call jJ c (aO S.n slots cj)) (fun S'=>jv S' slots) pI=some x∧Rel v x:=by
    intro m
    induction m with
    |zero=>intro s pI _ h;simp[LoopN]at h
    |succ m ih=>
     intro s pI Qm h
     simp only[LoopN,Ha]at h
     obtain⟨y,h1,h2⟩:=h
     obtain⟨⟨e,S'⟩,h3,h4⟩:=body s y h1
     rw[Q6]
     simp only[Qm,h3,AC]
     cases y with
     |next s'=>
      obtain⟨rfl,h5⟩:=h4
      have h5:(jv S' slots).map (aO S'.n slots)=some (rep s'):=h5
      obtain⟨aja,abg,Pv⟩:=Option.map_eq_some_iff.1 h5
      have sL:S'.n=S.n:=by rw[Ew zG _ _ _ h3];exact hn s ⟨pI,Qm⟩
      rw[sL]at Pv
      simp only[abg,AC]
      exact ih s' aja Pv h2
     |out o'=>
      obtain⟨h5,h6⟩:=h4
      obtain rfl:o'=v:=by simpa using h2
      cases e with
      |normal=>exact absurd rfl h5
      |_=>exact⟨_,rfl,h6⟩
   obtain⟨x,h3,h4⟩:=key m eZ ajb aa5 hm
   refine⟨x, ?_,h4⟩
   subst hs
   simp only[cq]
   refine(if_neg fun e=>Bool.noConfusion (hb.symm.trans e)).trans ?_
   exact(congrArg (Hb · _) aa4).trans h3
 unfold uh at key
 split at key
 ·exact key _ _ rfl rfl rfl
 ·exact key _ _ rfl rfl rfl
def DX(C:aF)(f:FuncId)(k:Nat)(fD:bQ→ah)(v:bQ)(x:Exit×ah):Prop:=x.1= .exit k∧dn (C.oP f k) x.2=some (fD v)
def DY(C:aF)(f:FuncId)(k:Nat)(fD:bQ→ah)(R:ρ'→Exit×ah→Prop):cP bQ ρ'→Exit×ah→Prop| .dy v,x=>DX C f k fD v x| .ret r,x=>R r x
theorem bR{step:σ→Option (cG σ bQ)}{eZ:σ}{pR:bQ→Option ρ}(rep:σ→ah)(fD:bQ→ah)(hF:(Loop step eZ).bind pR=some r)(h0:dn (uh C f c) S=some (rep eZ))(body:∀s y,step s=some y→W C f call c (rep s) (vC (uh C f c) rep (DX C f k fD) y))(post:∀v,pR v=some r→Q (.normal,fD v)):W C f call (.block k (.loop c)) S Q:=by obtain⟨v,h1,h2⟩:=Ee hF;obtain⟨⟨e,S'⟩,h3,rfl,h5⟩:=Q5 (DX C f k fD) h1 h0 body;exact cx ⟨_,h3,Su h5 (post v h2)⟩
theorem kX{step:σ→Option (cG σ (cP bQ ρ'))}{eZ:σ}{kb:bQ→Option ρ}{pg:ρ'→Option ρ}(rep:σ→ah)(fD:bQ→ah)(R:ρ'→Exit×ah→Prop)(hF:(Loop step eZ).bind (cP.go kb pg)=some r)(h0:dn (uh C f c) S=some (rep eZ))(body:∀s y,step s=some y→W C f call c (rep s) (vC (uh C f c) rep (DY C f k fD R) y))(post:∀v,kb v=some r→Q (.normal,fD v))(EC:∀v,pg v=some r→∀x,R v x→pV C f k Q x):W C f call (.block k (.loop c)) S Q:=by obtain⟨v,h1,h2⟩:=Ee hF;obtain⟨x,h3,h4⟩:=Q5 (DY C f k fD R) h1 h0 body;cases v with|dy v=>(obtain⟨e,S'⟩:=x;obtain⟨rfl,h5⟩:=h4;exact cx ⟨_,h3,Su h5 (post v h2)⟩)|ret v=>exact cx ⟨_,h3,EC v h2 _ h4⟩
variable{Rel:bQ→Exit×ah→Prop}{fD:bQ→ah}{R:ρ'→Exit×ah→Prop}
theorem ln{s':σ}{y:cG σ bQ}(hy:some (cG.next s')=some y)(hc:dn o S=some (rep s')):vC o rep Rel y (.normal,S):=by cases hy;exact⟨rfl,hc⟩
theorem lx{v:bQ}{y:cG σ bQ}(hy:some (cG.out v)=some y)(hc:dn (C.oP f k) S=some (fD v)):vC o rep (DX C f k fD) y (.exit k,S):=by cases hy;exact⟨by simp,rfl,hc⟩
theorem mL{v:bQ}{y:cG σ (cP bQ ρ')}(hy:some (cG.out (cP.dy v))=some y)(hc:dn (C.oP f k) S=some (fD v)):vC o rep (DY C f k fD R) y (.exit k,S):=by cases hy;exact⟨by simp,rfl,hc⟩
theorem lr{v:ρ'}{y:cG σ (cP bQ ρ')}(hy:some (cG.out (cP.ret v))=some y)(h:R v (.ret,S)):vC o rep (DY C f k fD R) y (.ret,S):=by cases hy;exact⟨by simp,h⟩
end
theorem inj{α:Type}{a b:α}(h:some a=some b):a=b:=Option.some.inj h
end Go.Ab
