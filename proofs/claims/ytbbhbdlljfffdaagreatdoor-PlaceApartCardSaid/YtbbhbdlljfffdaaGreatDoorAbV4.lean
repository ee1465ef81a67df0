import Derived.Test.YtbbhbdlljfffdaaGreatDoorAbV3
open Bool renaming false_eq_true→GT
open Nat renaming le_of_ble_eq_true→Hb
open Option renaming bind_some→GE,map_some→Ha,bind_eq_some_iff→Hc,bind→Hd
set_option linter.all false
namespace Go.Ab
open Go
def B5{α:Type}(a b:List α):Option Unit:=if a.length=b.length then some ()else none
theorem aa6{α:Type}{a b:List α}{u:Unit}(h:B5 a b=some u):a.length=b.length:=by unfold B5 at h;split at h;·{(first|(with_reducible assumption)|assumption)};·cases h
section
variable{L:Id→Option (Option Rows)}{id:Id}{cs old as bs args:List U}{n m:Nat}{α:Type}{c:α→List U}{q q0:List α}{w w2:List (Id×Option Rows)}{a b:U}{j:Nat}{l:List Nat}
theorem ajW(ha:a= .mp id 0 0:=by exact rfl)(hb:b= .aS cs:=by exact rfl)(hh:L id=some (some [old]):=by exact rfl)(hl:cs.length=old.length:=by exact rfl):jE L a b=some [(id,some [cs])]:=by subst ha hb;simp[jE,hh,hl]
theorem ajX(hlen:q.length=q0.length)(ha:a= .rs id 0 m:=by exact rfl)(hb:b= .own (q.map c) q.length:=by exact rfl)(hh:L id=some (some (q0.map c)):=by exact rfl)(hm:m=q0.length:=by exact qG)(hn:∀x,(c x).length=n:=by exact fun _=>rfl):jE L a b=some [(id,some (q.map c))]:=by subst ha hb hm;cases q0 with|nil=>(obtain rfl:q=[]:=List.length_eq_zero_iff.1 hlen;simp only[List.map_nil]at hh;simp[jE,hh])|cons x q0=>simp only[List.map_cons]at hh;simp only[jE,hh];rw[AC ⟨by simpa using hlen,by simpa using hlen,by simp,by simp[hn]⟩]
theorem ajY{r:Rows}(ha:a= .sl r:=by exact rfl):jE L a b=some []:=by subst ha;rfl
theorem ajp(ha:as=[]:=by exact rfl)(hb:bs=[]:=by exact rfl):j0 L as bs=some []:=by subst ha hb;rfl
theorem ajo(ha:cs=a::as)(hb:old=b::bs)(h1:jE L a b=some w)(h2:j0 L as bs=some w2):j0 L cs old=some (w++w2):=by subst ha hb;simp[j0,h1,h2]
theorem ajV(hn:(match a with| .agg _=>false|_=>true)=true)(h:jE L a b=some w):se L a b=some w:=by cases a<;>first|exact h|cases hn
theorem ajG(hb:bs=[]:=by exact rfl):hJ L args [] bs=some []:=by subst hb;rfl
theorem ajF(hb:old=b::bs)(ha:args[j]? =some a)(h1:se L a b=some w)(h2:hJ L args l bs=some w2):hJ L args (j::l) old=some (w++w2):=by subst hb;simp[hJ,ha,h1,h2]
theorem rlk{y:Option (List (Id×Option Rows))}(h:hJ L args l bs=y:=by repeat'(first|exact ajG|exact ajW|exact aoq|exact ajY|exact ajX (by(first|(with_reducible assumption)|assumption))|exact ajp|(apply ajo;exact rfl;exact rfl)|(apply aop;exact rfl;exact rfl)|(apply ajV;exact rfl)|(apply ajF;exact rfl;exact rfl))):hJ L args l bs=y:=h
end
section
variable{C:aL}{f:FuncId}{call:gd}{S:ah}{g:Bool}
variable{d:Nat}{ty:TypeId}{pos:String}{aZ:Array Edge}{bx:Option (Nat×Bool)}{v v':U}
theorem u6{xs:Array Operand}{ts:Array TypeId}{dx:FuncId}{ms cA:List Nat}{args outs:List U}{seen tk dz:List Id}{r:U}{back j5 wr:List (Id×Option Rows)}(hc:call dx args=some (r,outs))(hm:C.xR dx=ms:=by exact rfl)(hm0:ms.isEmpty=false:=by exact rfl)(hle:C.cA dx=cA:=by exact rfl)(ht:j4 S.h ms (xs.toList.map fun x=>un g (S.get C x))=some (args,seen,tk,dz):=by exact UI)(hz:(C.eF f).contains d=false:=by exact rfl)(hb:hJ S.h (xs.toList.map fun x=>un g (S.get C x)) cA outs=some back:=by exact rlk)(h1:(dV (tk++dz)&&sN seen (tk++dz))=true:=by exact rfl)(h2:(seen.isEmpty||mine r&&outs.all mine)=true:=by first|exact rfl|exact acV K9 agt)(h3:(dV (back.map (·.1))&&(back.all fun x=>tk.contains x.1))=true:=by exact rfl)(hi:imp [d] r=(v',j5):=by exact xD)(hf:fresh S.h j5=true:=by exact rfl)(hw:j5++(back++(tk++dz).map fun i=>(i,none))=wr:=by exact spine)(mX:C.path dx=none:=by exact rfl)(dZ:C.gW dx=false:=by exact rfl):bw C f call S g ⟨some d, .call ⟨.value (.func dx),xs,ts⟩,ty,pos,aZ,bx⟩=some ⟨[(d,v')],seen,wr⟩:=OK hm hm0 hle ht hc (v:=r) (by simp only[eL,hz,GT,if_false]) hb h1 h2 h3 hi hf hw mX dZ
theorem GR{xs:Array Operand}{ts:Array TypeId}{dx:FuncId}{ms cA:List Nat}{args outs:List U}{seen tk dz:List Id}{r:U}{back j5 wr:List (Id×Option Rows)}(hc:call dx args=some (r,outs))(hm:C.xR dx=ms:=by exact rfl)(hm0:ms.isEmpty=false:=by exact rfl)(hle:C.cA dx=cA:=by exact rfl)(ht:j4 S.h ms (xs.toList.map fun x=>un g (S.get C x))=some (args,seen,tk,dz):=by exact UI)(hz:(C.eF f).contains d=true:=by exact rfl)(hv:dF r=v:=by exact Cj)(hb:hJ S.h (xs.toList.map fun x=>un g (S.get C x)) cA outs=some back:=by exact rlk)(h1:(dV (tk++dz)&&sN seen (tk++dz))=true:=by exact rfl)(h2:(seen.isEmpty||mine r&&outs.all mine)=true:=by first|exact rfl|exact acV K9 agt)(h3:(dV (back.map (·.1))&&(back.all fun x=>tk.contains x.1))=true:=by exact rfl)(hi:imp [d] v=(v',j5):=by exact xD)(hf:fresh S.h j5=true:=by exact rfl)(hw:j5++(back++(tk++dz).map fun i=>(i,none))=wr:=by exact spine)(mX:C.path dx=none:=by exact rfl)(dZ:C.gW dx=false:=by exact rfl):bw C f call S g ⟨some d, .call ⟨.value (.func dx),xs,ts⟩,ty,pos,aZ,bx⟩=some ⟨[(d,v')],seen,wr⟩:=OK hm hm0 hle ht hc (v:=v) (by simp only[eL,hz,if_true,hv]) hb h1 h2 h3 hi hf hw mX dZ
end
theorem fK{C:aL}{f:FuncId}{a b:Nat}{args:List U}{r:Option (U×List U)}(h:den C a f args=r)(e:a=b):den C b f args=r:=e▸h
/-! ### Functions -/
def vg:List U→U|[r]=>r|vs=> .aY vs
def Fin(C:aL)(rv:List ResultVar)(cA:List Nat)(r:U)(outs:List U)(x:Exit×ah):Prop:=(x.1= .ret∨x.1= .normal)∧∃vs ids is,kJ C x.2 rv=some (vs,ids)∧jZ x.2.h x.2.t cA=some (outs,is)∧dV (ids++is)=true∧vg vs=r
section
variable{C:aL}{f:FuncId}{call:gd}{S:ah}{T:TypeId}
variable{rv:List ResultVar}{cA:List Nat}{vs outs cs r:List U}{ids is:List Id}{v v':U}
theorem ajQ:kJ C S []=some ([],[]):=rfl
theorem ajS{t:Nat}(h:pk S.h 9 (un true (S.t t))=some (v,ids))(hr:kJ C S rv=some (vs,is)):kJ C S (.tmp t::rv)=some (v::vs,ids++is):=by show(vn C S (.tmp t)).bind _=_;simp only[vn,h,GE,hr,Ha]
theorem ajR{a m:Nat}{id:Id}{bb:Bool}[ha:cM C T bb m](hx:un true (S.t a)= .mp id 0 0)(hh:S.h id=some (some [r]))(hl:Nat.ble m r.length=true)(hv:jd bb (r.take m)=some v)(h:pk S.h 9 v=some (v',ids))(hr:kJ C S rv=some (vs,is)):kJ C S (.cell a T::rv)=some (v'::vs,id::ids++is):=by show(vn C S (.cell a T)).bind _=_;have hl':0+m≤r.length:=by{have:=Hb hl;omega};simp only[vn,ha.jN,ha.sz,hx,hh,List.getElem?_cons_zero,AC hl',List.drop_zero,hv,GE,h,hr,Ha]
theorem GJ{cells:List U}(hc:cells=[v]):jd false cells=some v:=by subst hc;rfl
theorem GI{cells:List U}(hc:cells=cs:=by exact spine):jd true cells=some (.agg cs):=by subst hc;rfl
theorem Mo{y:Option (List U×List Id)}(h:kJ C S rv=y:=by repeat'(first|with_reducible exact ajQ|((with_reducible apply ajS);exact mE)|((with_reducible apply ajR);exact rfl;exact rfl;exact rfl;(first|exact GI|exact GJ rfl);exact mE)|((with_reducible apply aoo);exact rfl;exact rfl;(first|exact GI|exact GJ rfl);exact mE))):kJ C S rv=y:=h
theorem fin{r:U}(h:kJ C S rv=some (vs,ids):=by exact Mo)(hp:jZ S.h S.t cA=some (outs,is):=by exact Hi)(hn:dV (ids++is)=true:=by exact rfl)(hr:vg vs=r:=by exact rfl):Fin C rv cA r outs (.ret,S):=⟨.inl rfl,vs,ids,is,h,hp,hn,hr⟩
theorem cC{fn:Func}{c:Code}{args:List U}{nn N:Nat}{r:U}{t:Nat→U}{h:Id→Option (Option Rows)}{sl:List Nat}(hf:C.P.funcs[f]? =some fn)(hn:fn.ntmps=N)(hr:fn.results.toList=rv)(k:W C f (den C nn) c ⟨N,t,h⟩ (Fin C rv cA r outs))(hb:fn.body=some c:=by exact rfl)(he:C.ext f=none:=by exact rfl)(hle:C.cA f=cA:=by exact rfl)(hl:Nat.ble args.length N=true:=by exact rfl)(kn:List.range args.length=sl:=by exact rfl)(hm:aJ N sl args=⟨N,t,h⟩:=by exact GK)(dZ:C.gW f=false:=by exact rfl):den C (nn+1) f args=some (r,outs):=by obtain⟨⟨e,s⟩,h1,h2,vs,ids,is,h3,h6,h4,h5⟩:=k;subst hr hn hle kn;show rF C (den C nn) jV f args=_;unfold rF;simp only[he,hf,hb,dZ,GT,if_false,AC (Hb hl),hm,h1,GE];have cV:finish C fn (C.cA f) args s=some (r,outs):=by{unfold finish;simp only at h3 h6;rw[h3,h6];simp only[h4,if_true];rw[←h5];congr 2;cases vs with|nil=>(rfl)|cons a l=>cases l<;>rfl};rcases h2 with h2|h2;·{simp only at h2;subst h2;exact cV};·simp only at h2;subst h2;exact cV
end
/-! ### Loops -/
def cL.go{bY ρ ρ':Type}(kb:bY→Option ρ)(pV:ρ'→Option ρ):cL bY ρ'→Option ρ| .ep x=>kb x| .ret r=>pV r
section
variable{C:aL}{f:FuncId}{call:gd}{S:ah}{Q:Exit×ah→Prop}{c:Code}{σ bY ρ ρ':Type}{r:ρ}{k:Nat}{o:Option (Bool×List Nat)}{rep:σ→ah}[j6]
def ue(o:Option (Bool×List Nat))(rep:σ→ah)(Rel:bY→Exit×ah→Prop)(y:cE σ bY)(x:Exit×ah):Prop:=match y with| .next s'=>x.1= .normal∧dB o x.2=some (rep s')| .out v=>x.1≠ .normal∧Rel v x
def uF(C:aL)(f:FuncId)(c:Code):Option (Bool×List Nat):=match mR c with|some i=>some (C.shr f i,C.live f i)|none=>some (false,[])
theorem R4{step:σ→Option (cE σ bY)}(Rel:bY→Exit×ah→Prop){fh:σ}{v:bY}(hL:Loop step fh=some v)(h0:dB (uF C f c) S=some (rep fh))
  (body:∀s y,step s=some y→W C f call c (rep s) (ue (uF C f c) rep Rel y)):∃x,cy C f call jV (.loop c) S=some x∧Rel v x:=by
 obtain⟨m,hm⟩:=HV hL
 have key:∀(b:Bool)(slots:List Nat),uF C f c=some (b,slots)→(match mR c with|some i=>C.live f i|none=>[])=slots→(match mR c with|some i=>C.shr f i|none=>false)=b→∃x,cy C f call jV (.loop c) S=some x∧Rel v x:=by
  intro b slots hk hs hb
  rw[hk]at h0 body
  cases b with
  |true=>
   have key:∀m s,LoopN step m s=some v→∃x,jV ah (fun S'=>cy C f call jV c S') (fun S'=>norm S' slots) (rep s)=some x∧Rel v x:=by
    intro m
    induction m with
    |zero=>intro s h;simp[LoopN]at h
    |succ m ih=>
     intro s h
     simp only[LoopN,Hc]at h
     obtain⟨y,h1,h2⟩:=h
     obtain⟨⟨e,S'⟩,h3,h4⟩:=body s y h1
     rw[R5]
     simp only[h3,GE]
     cases y with
     |next s'=>
      obtain⟨rfl,h5⟩:=h4
      have h5:norm S' slots=some (rep s'):=h5
      simp only[h5,GE]
      exact ih s' h2
     |out o'=>
      obtain⟨h5,h6⟩:=h4
      obtain rfl:o'=v:=by simpa using h2
      cases e with
      |normal=>exact absurd rfl h5
      |_=>exact⟨_,rfl,h6⟩
   obtain⟨x,h3,h4⟩:=key m fh hm
   refine⟨x, ?_,h4⟩
   subst hs
   simp only[cy]
   refine(AC hb).trans ?_
   exact(congrArg (Hd · _) (show norm S _=some (rep fh)from h0)).trans h3
  |false=>
   have h0:(jF S slots).map (aJ S.n slots)=some (rep fh):=h0
   obtain⟨akL,acR,acS⟩:=Option.map_eq_some_iff.1 h0
   have hn:∀s,(∃p7,aJ S.n slots p7=rep s)→(rep s).n=S.n:=fun s⟨p7,h⟩=>by rw[←h,Ax]
   have key:∀m s p7,aJ S.n slots p7=rep s→LoopN step m s=some v→∃x,jV (List U) (fun ct=>cy C f call jV c (aJ S.n slots ct)) (fun S'=>jF S' slots) p7=some x∧Rel v x:=by
    intro m
    induction m with
    |zero=>intro s p7 _ h;simp[LoopN]at h
    |succ m ih=>
     intro s p7 Rq h
     simp only[LoopN,Hc]at h
     obtain⟨y,h1,h2⟩:=h
     obtain⟨⟨e,S'⟩,h3,h4⟩:=body s y h1
     rw[R5]
     simp only[Rq,h3,GE]
     cases y with
     |next s'=>
      obtain⟨rfl,h5⟩:=h4
      have h5:(jF S' slots).map (aJ S'.n slots)=some (rep s'):=h5
      obtain⟨akK,ac1,QB⟩:=Option.map_eq_some_iff.1 h5
      have s0:S'.n=S.n:=by rw[FA Av _ _ _ h3];exact hn s ⟨p7,Rq⟩
      rw[s0]at QB
      simp only[ac1,GE]
      exact ih s' akK QB h2
     |out o'=>
      obtain⟨h5,h6⟩:=h4
      obtain rfl:o'=v:=by simpa using h2
      cases e with
      |normal=>exact absurd rfl h5
      |_=>exact⟨_,rfl,h6⟩
   obtain⟨x,h3,h4⟩:=key m fh akL acS hm
   refine⟨x, ?_,h4⟩
   subst hs
   simp only[cy]
   refine(Do fun e=>Bool.noConfusion (hb.symm.trans e)).trans ?_
   exact(congrArg (Hd · _) acR).trans h3
 unfold uF at key
 split at key
 ·exact key _ _ rfl rfl rfl
 ·exact key _ _ rfl rfl rfl
def EV(C:aL)(f:FuncId)(k:Nat)(fO:bY→ah)(v:bY)(x:Exit×ah):Prop:=x.1= .exit k∧dB (C.pn f k) x.2=some (fO v)
def BE(C:aL)(f:FuncId)(k:Nat)(fO:bY→ah)(R:ρ'→Exit×ah→Prop):cL bY ρ'→Exit×ah→Prop| .ep v,x=>EV C f k fO v x| .ret r,x=>R r x
theorem bV{step:σ→Option (cE σ bY)}{fh:σ}{qb:bY→Option ρ}(rep:σ→ah)(fO:bY→ah)(hF:(Loop step fh).bind qb=some r)(h0:dB (uF C f c) S=some (rep fh))(body:∀s y,step s=some y→W C f call c (rep s) (ue (uF C f c) rep (EV C f k fO) y))(post:∀v,qb v=some r→Q (.normal,fO v)):W C f call (.block k (.loop c)) S Q:=by obtain⟨v,h1,h2⟩:=Ff hF;obtain⟨⟨e,S'⟩,h3,rfl,h5⟩:=R4 (EV C f k fO) h1 h0 body;exact cg ⟨_,h3,TN h5 (post v h2)⟩
theorem jW{step:σ→Option (cE σ (cL bY ρ'))}{fh:σ}{kb:bY→Option ρ}{pV:ρ'→Option ρ}(rep:σ→ah)(fO:bY→ah)(R:ρ'→Exit×ah→Prop)(hF:(Loop step fh).bind (cL.go kb pV)=some r)(h0:dB (uF C f c) S=some (rep fh))(body:∀s y,step s=some y→W C f call c (rep s) (ue (uF C f c) rep (BE C f k fO R) y))(post:∀v,kb v=some r→Q (.normal,fO v))(FH:∀v,pV v=some r→∀x,R v x→qe C f k Q x):W C f call (.block k (.loop c)) S Q:=by obtain⟨v,h1,h2⟩:=Ff hF;obtain⟨x,h3,h4⟩:=R4 (BE C f k fO R) h1 h0 body;cases v with|ep v=>(obtain⟨e,S'⟩:=x;obtain⟨rfl,h5⟩:=h4;exact cg ⟨_,h3,TN h5 (post v h2)⟩)|ret v=>exact cg ⟨_,h3,FH v h2 _ h4⟩
variable{Rel:bY→Exit×ah→Prop}{fO:bY→ah}{R:ρ'→Exit×ah→Prop}
theorem ln{s':σ}{y:cE σ bY}(hy:some (cE.next s')=some y)(hc:dB o S=some (rep s')):ue o rep Rel y (.normal,S):=by cases hy;exact⟨rfl,hc⟩
theorem lx{v:bY}{y:cE σ bY}(hy:some (cE.out v)=some y)(hc:dB (C.pn f k) S=some (fO v)):ue o rep (EV C f k fO) y (.exit k,S):=by cases hy;exact⟨by simp,rfl,hc⟩
theorem k5{v:bY}{y:cE σ (cL bY ρ')}(hy:some (cE.out (cL.ep v))=some y)(hc:dB (C.pn f k) S=some (fO v)):ue o rep (BE C f k fO R) y (.exit k,S):=by cases hy;exact⟨by simp,rfl,hc⟩
theorem lr{v:ρ'}{y:cE σ (cL bY ρ')}(hy:some (cE.out (cL.ret v))=some y)(h:R v (.ret,S)):ue o rep (BE C f k fO R) y (.ret,S):=by cases hy;exact⟨by simp,h⟩
theorem lrr{v:ρ'}{y:cE σ (cL bY ρ')}{x:Exit×ah}(hy:some (cE.out (cL.ret v))=some y)(hx:x.1≠ .normal)(h:R v x):ue o rep (BE C f k fO R) y x:=by cases hy;exact⟨hx,h⟩
end
theorem inj{α:Type}{a b:α}(h:some a=some b):a=b:=Option.some.inj h
end Go.Ab
