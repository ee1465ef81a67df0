import Derived.Test.YtbbhbdlljfffdaaGreatDoorAbV3
open Nat renaming le_of_ble_eq_true→Ha
open Option renaming bind_some→GE,map_some→GT,bind_eq_some_iff→Hb,bind→Hc
set_option linter.all false
namespace Go.Ab
open Go
def Bx{α:Type}(a b:List α):Option Unit:=if a.length=b.length then some ()else none
theorem Qn{α:Type}{a b:List α}{u:Unit}(h:Bx a b=some u):a.length=b.length:=by unfold Bx at h;split at h;·{(first|(with_reducible assumption)|assumption)};·cases h
section
variable{L:Id→Option (Option Rows)}{id:Id}{cs old as bs args:List U}{n m:Nat}{α:Type}{c:α→List U}{q q0:List α}{w w2:List (Id×Option Rows)}{a b:U}{j:Nat}{l:List Nat}
theorem Ye(hlen:q.length=q0.length)(ha:a= .rs id 0 m:=by exact rfl)(hb:b= .own (q.map c) q.length:=by exact rfl)(hh:L id=some (some (q0.map c)):=by exact rfl)(hm:m=q0.length:=by exact ql)(hn:∀x,(c x).length=n:=by exact fun _=>rfl):iC L a b=some [(id,some (q.map c))]:=by subst ha hb hm;cases q0 with|nil=>(obtain rfl:q=[]:=List.length_eq_zero_iff.1 hlen;simp only[List.map_nil]at hh;simp[iC,hh])|cons x q0=>simp only[List.map_cons]at hh;simp only[iC,hh];rw[AC ⟨by simpa using hlen,by simpa using hlen,by simp,by simp[hn]⟩]
theorem Yf{r:Rows}(ha:a= .sl r:=by exact rfl):iC L a b=some []:=by subst ha;rfl
theorem XM(ha:as=[]:=by exact rfl)(hb:bs=[]:=by exact rfl):gR L as bs=some []:=by subst ha hb;rfl
theorem XL(ha:cs=a::as)(hb:old=b::bs)(h1:iC L a b=some w)(h2:gR L as bs=some w2):gR L cs old=some (w++w2):=by subst ha hb;simp[gR,h1,h2]
theorem X2(hb:bs=[]:=by exact rfl):fM L args [] bs=some []:=by subst hb;rfl
theorem X1(hb:old=b::bs)(ha:args[j]? =some a)(h1:oW L a b=some w)(h2:fM L args l bs=some w2):fM L args (j::l) old=some (w++w2):=by subst hb;simp[fM,ha,h1,h2]
theorem rlk{y:Option (List (Id×Option Rows))}(h:fM L args l bs=y:=by repeat'(first|exact X2|exact aci|exact acj|exact Yf|exact Ye (by(first|(with_reducible assumption)|assumption))|exact XM|(apply XL;exact rfl;exact rfl)|(apply ach;exact rfl;exact rfl)|(apply acg;exact rfl)|(apply X1;exact rfl;exact rfl))):fM L args l bs=y:=h
end
section
variable{C:aB}{f:FuncId}{call:eV}{S:ah}{g:Bool}
variable{d:Nat}{ty:TypeId}{pos:String}{aM:Array Edge}{bp:Option (Nat×Bool)}{v v':U}
theorem VP{xs:Array Operand}{ts:Array TypeId}{dc:FuncId}{ms bL:List Nat}{args outs:List U}{seen tk cT:List Id}{r:U}{back js wr:List (Id×Option Rows)}(hc:call dc args=some (r,outs))(hm:C.ue dc=ms:=by exact rfl)(hm0:ms.isEmpty=false:=by exact rfl)(hle:C.bL dc=bL:=by exact rfl)(ht:hO S.h ms (xs.toList.map fun x=>un g (S.get C x))=some (args,seen,tk,cT):=by exact YD)(hz:(C.dN f).contains d=true:=by exact rfl)(hv:cS r=v:=by exact vG)(hb:fM S.h (xs.toList.map fun x=>un g (S.get C x)) bL outs=some back:=by exact rlk)(h1:(de (tk++cT)&&pN seen (tk++cT))=true:=by exact rfl)(h2:(seen.isEmpty||mine r&&outs.all mine)=true:=by first|exact rfl|exact aaF Je abh)(h3:(de (back.map (·.1))&&(back.all fun x=>tk.contains x.1))=true:=by exact rfl)(hi:imp [d] v=(v',js):=by exact tQ)(hf:fresh S.h js=true:=by exact rfl)(hw:js++(back++(tk++cT).map fun i=>(i,none))=wr:=by exact spine)(rS:C.path dc=none:=by exact rfl)(dm:C.fP dc=false:=by exact rfl):bn C f call S g ⟨some d, .call ⟨.value (.func dc),xs,ts⟩,ty,pos,aM,bp⟩=some ⟨[(d,v')],seen,wr⟩:=Pb hm hm0 hle ht hc (v:=v) (by simp only[dS,hz,if_true,hv]) hb h1 h2 h3 hi hf hw rS dm
end
theorem e7{C:aB}{f:FuncId}{a b:Nat}{args:List U}{r:Option (U×List U)}(h:den C a f args=r)(e:a=b):den C b f args=r:=e▸h
/-! ### Functions -/
def qv:List U→U|[r]=>r|vs=> .aE vs
def Fin(C:aB)(rv:List ResultVar)(bL:List Nat)(r:U)(outs:List U)(x:Exit×ah):Prop:=(x.1= .ret∨x.1= .normal)∧∃vs ids is,iD C x.2 rv=some (vs,ids)∧gQ x.2.h x.2.t bL=some (outs,is)∧de (ids++is)=true∧qv vs=r
section
variable{C:aB}{f:FuncId}{call:eV}{S:ah}{T:TypeId}
variable{rv:List ResultVar}{bL:List Nat}{vs outs cs r:List U}{ids is:List Id}{v v':U}
theorem Ya:iD C S []=some ([],[]):=rfl
theorem Yc{t:Nat}(h:pk S.h 9 (un true (S.t t))=some (v,ids))(hr:iD C S rv=some (vs,is)):iD C S (.tmp t::rv)=some (v::vs,ids++is):=by show(qB C S (.tmp t)).bind _=_;simp only[qB,h,GE,hr,GT]
theorem Yb{a m:Nat}{id:Id}{bb:Bool}[ha:cK C T bb m](hx:un true (S.t a)= .mp id 0 0)(hh:S.h id=some (some [r]))(hl:Nat.ble m r.length=true)(hv:gx bb (r.take m)=some v)(h:pk S.h 9 v=some (v',ids))(hr:iD C S rv=some (vs,is)):iD C S (.cell a T::rv)=some (v'::vs,id::ids++is):=by show(qB C S (.cell a T)).bind _=_;have hl':0+m≤r.length:=by{have:=Ha hl;omega};simp only[qB,ha.iH,ha.sz,hx,hh,List.getElem?_cons_zero,AC hl',List.drop_zero,hv,GE,h,hr,GT]
theorem zM{cells:List U}(hc:cells=cs:=by exact spine):gx true cells=some (.agg cs):=by subst hc;rfl
theorem Ew{y:Option (List U×List Id)}(h:iD C S rv=y:=by repeat'(first|with_reducible exact Ya|((with_reducible apply Yc);exact jM)|((with_reducible apply Yb);exact rfl;exact rfl;exact rfl;(first|exact zM|exact Di rfl);exact jM)|((with_reducible apply acf);exact rfl;exact rfl;(first|exact zM|exact Di rfl);exact jM))):iD C S rv=y:=h
theorem fin{r:U}(h:iD C S rv=some (vs,ids):=by exact Ew)(hp:gQ S.h S.t bL=some (outs,is):=by exact Ag)(hn:de (ids++is)=true:=by exact rfl)(hr:qv vs=r:=by exact rfl):Fin C rv bL r outs (.ret,S):=⟨.inl rfl,vs,ids,is,h,hp,hn,hr⟩
theorem cN{fn:Func}{c:Code}{args:List U}{nn N:Nat}{r:U}{t:Nat→U}{h:Id→Option (Option Rows)}{sl:List Nat}(hf:C.P.funcs[f]? =some fn)(hn:fn.ntmps=N)(hr:fn.results.toList=rv)(k:W C f (den C nn) c ⟨N,t,h⟩ (Fin C rv bL r outs))(hb:fn.body=some c:=by exact rfl)(he:C.ext f=none:=by exact rfl)(hle:C.bL f=bL:=by exact rfl)(hl:Nat.ble args.length N=true:=by exact rfl)(hJ:List.range args.length=sl:=by exact rfl)(hm:aI N sl args=⟨N,t,h⟩:=by exact Dj)(dm:C.fP f=false:=by exact rfl):den C (nn+1) f args=some (r,outs):=by obtain⟨⟨e,s⟩,h1,h2,vs,ids,is,h3,h6,h4,h5⟩:=k;subst hr hn hle hJ;show nG C (den C nn) iy f args=_;unfold nG;simp only[he,hf,hb,dm,Bool.false_eq_true,if_false,AC (Ha hl),hm,h1,GE];have cL:finish C fn (C.bL f) args s=some (r,outs):=by{unfold finish;simp only at h3 h6;rw[h3,h6];simp only[h4,if_true];rw[←h5];congr 2;cases vs with|nil=>(rfl)|cons a l=>cases l<;>rfl};rcases h2 with h2|h2;·{simp only at h2;subst h2;exact cL};·simp only at h2;subst h2;exact cL
end
/-! ### Loops -/
def dy.go{cC ρ ρ':Type}(kb:cC→Option ρ)(zG:ρ'→Option ρ):dy cC ρ'→Option ρ| .jx x=>kb x| .ret r=>zG r
section
variable{C:aB}{f:FuncId}{call:eV}{S:ah}{Q:Exit×ah→Prop}{c:Code}{σ cC ρ ρ':Type}{r:ρ}{k:Nat}{o:Option (Bool×List Nat)}{rep:σ→ah}[kU]
def qQ(o:Option (Bool×List Nat))(rep:σ→ah)(Rel:cC→Exit×ah→Prop)(y:cV σ cC)(x:Exit×ah):Prop:=match y with| .next s'=>x.1= .normal∧dj o x.2=some (rep s')| .out v=>x.1≠ .normal∧Rel v x
def p6(C:aB)(f:FuncId)(c:Code):Option (Bool×List Nat):=match jV c with|some i=>some (C.shr f i,C.live f i)|none=>some (false,[])
theorem Ja{step:σ→Option (cV σ cC)}(Rel:cC→Exit×ah→Prop){iQ:σ}{v:cC}(hL:Loop step iQ=some v)(h0:dj (p6 C f c) S=some (rep iQ))
  (body:∀s y,step s=some y→W C f call c (rep s) (qQ (p6 C f c) rep Rel y)):∃x,bI C f call iy (.loop c) S=some x∧Rel v x:=by
 obtain⟨m,hm⟩:=LL hL
 have key:∀(b:Bool)(slots:List Nat),p6 C f c=some (b,slots)→(match jV c with|some i=>C.live f i|none=>[])=slots→(match jV c with|some i=>C.shr f i|none=>false)=b→∃x,bI C f call iy (.loop c) S=some x∧Rel v x:=by
  intro b slots hk hs hb
  rw[hk]at h0 body
  cases b with
  |true=>
   have key:∀m s,LoopN step m s=some v→∃x,iy ah (fun S'=>bI C f call iy c S') (fun S'=>norm S' slots) (rep s)=some x∧Rel v x:=by
    intro m
    induction m with
    |zero=>intro s h;simp[LoopN]at h
    |succ m ih=>
     intro s h
     simp only[LoopN,Hb]at h
     obtain⟨y,h1,h2⟩:=h
     obtain⟨⟨e,S'⟩,h3,h4⟩:=body s y h1
     rw[Jb]
     simp only[h3,GE]
     cases y with
     |next s'=>
      obtain⟨rfl,h5⟩:=h4
      have h5:norm S' slots=some (rep s'):=h5
      simp only[h5,GE]
      exact ih s' h2
     |out o'=>
      obtain⟨h5,h6⟩:=h4
      obtain rfl:o'=v:=by simpa using h2
      cases e with
      |normal=>exact absurd rfl h5
      |_=>exact⟨_,rfl,h6⟩
   obtain⟨x,h3,h4⟩:=key m iQ hm
   refine⟨x, ?_,h4⟩
   subst hs
   simp only[bI]
   refine(AC hb).trans ?_
   exact(congrArg (Hc · _) (show norm S _=some (rep iQ)from h0)).trans h3
  |false=>
   have h0:(gA S slots).map (aI S.n slots)=some (rep iQ):=h0
   obtain⟨YH,RY,RZ⟩:=Option.map_eq_some_iff.1 h0
   have hn:∀s,(∃mz,aI S.n slots mz=rep s)→(rep s).n=S.n:=fun s⟨mz,h⟩=>by rw[←h,ud]
   have key:∀m s mz,aI S.n slots mz=rep s→LoopN step m s=some v→∃x,iy (List U) (fun bB=>bI C f call iy c (aI S.n slots bB)) (fun S'=>gA S' slots) mz=some x∧Rel v x:=by
    intro m
    induction m with
    |zero=>intro s mz _ h;simp[LoopN]at h
    |succ m ih=>
     intro s mz II h
     simp only[LoopN,Hb]at h
     obtain⟨y,h1,h2⟩:=h
     obtain⟨⟨e,S'⟩,h3,h4⟩:=body s y h1
     rw[Jb]
     simp only[II,h3,GE]
     cases y with
     |next s'=>
      obtain⟨rfl,h5⟩:=h4
      have h5:(gA S' slots).map (aI S'.n slots)=some (rep s'):=h5
      obtain⟨YG,Sj,HT⟩:=Option.map_eq_some_iff.1 h5
      have oE:S'.n=S.n:=by rw[yX ua _ _ _ h3];exact hn s ⟨mz,II⟩
      rw[oE]at HT
      simp only[Sj,GE]
      exact ih s' YG HT h2
     |out o'=>
      obtain⟨h5,h6⟩:=h4
      obtain rfl:o'=v:=by simpa using h2
      cases e with
      |normal=>exact absurd rfl h5
      |_=>exact⟨_,rfl,h6⟩
   obtain⟨x,h3,h4⟩:=key m iQ YH RZ hm
   refine⟨x, ?_,h4⟩
   subst hs
   simp only[bI]
   refine(Do fun e=>Bool.noConfusion (hb.symm.trans e)).trans ?_
   exact(congrArg (Hc · _) RY).trans h3
 unfold p6 at key
 split at key
 ·exact key _ _ rfl rfl rfl
 ·exact key _ _ rfl rfl rfl
def yq(C:aB)(f:FuncId)(k:Nat)(iP:cC→ah)(v:cC)(x:Exit×ah):Prop:=x.1= .exit k∧dj (C.lT f k) x.2=some (iP v)
def yt(C:aB)(f:FuncId)(k:Nat)(iP:cC→ah)(R:ρ'→Exit×ah→Prop):dy cC ρ'→Exit×ah→Prop| .jx v,x=>yq C f k iP v x| .ret r,x=>R r x
theorem bu{step:σ→Option (cV σ cC)}{iQ:σ}{pz:cC→Option ρ}(rep:σ→ah)(iP:cC→ah)(hF:(Loop step iQ).bind pz=some r)(h0:dj (p6 C f c) S=some (rep iQ))(body:∀s y,step s=some y→W C f call c (rep s) (qQ (p6 C f c) rep (yq C f k iP) y))(post:∀v,pz v=some r→Q (.normal,iP v)):W C f call (.block k (.loop c)) S Q:=by obtain⟨v,h1,h2⟩:=yG hF;obtain⟨⟨e,S'⟩,h3,rfl,h5⟩:=Ja (yq C f k iP) h1 h0 body;exact cE ⟨_,h3,Kj h5 (post v h2)⟩
theorem kI{step:σ→Option (cV σ (dy cC ρ'))}{iQ:σ}{kb:cC→Option ρ}{zG:ρ'→Option ρ}(rep:σ→ah)(iP:cC→ah)(R:ρ'→Exit×ah→Prop)(hF:(Loop step iQ).bind (dy.go kb zG)=some r)(h0:dj (p6 C f c) S=some (rep iQ))(body:∀s y,step s=some y→W C f call c (rep s) (qQ (p6 C f c) rep (yt C f k iP R) y))(post:∀v,kb v=some r→Q (.normal,iP v))(y5:∀v,zG v=some r→∀x,R v x→mD C f k Q x):W C f call (.block k (.loop c)) S Q:=by obtain⟨v,h1,h2⟩:=yG hF;obtain⟨x,h3,h4⟩:=Ja (yt C f k iP R) h1 h0 body;cases v with|jx v=>(obtain⟨e,S'⟩:=x;obtain⟨rfl,h5⟩:=h4;exact cE ⟨_,h3,Kj h5 (post v h2)⟩)|ret v=>exact cE ⟨_,h3,y5 v h2 _ h4⟩
variable{Rel:cC→Exit×ah→Prop}{iP:cC→ah}{R:ρ'→Exit×ah→Prop}
theorem ln{s':σ}{y:cV σ cC}(hy:some (cV.next s')=some y)(hc:dj o S=some (rep s')):qQ o rep Rel y (.normal,S):=by cases hy;exact⟨rfl,hc⟩
theorem lx{v:cC}{y:cV σ cC}(hy:some (cV.out v)=some y)(hc:dj (C.lT f k) S=some (iP v)):qQ o rep (yq C f k iP) y (.exit k,S):=by cases hy;exact⟨by simp,rfl,hc⟩
theorem mY{v:cC}{y:cV σ (dy cC ρ')}(hy:some (cV.out (dy.jx v))=some y)(hc:dj (C.lT f k) S=some (iP v)):qQ o rep (yt C f k iP R) y (.exit k,S):=by cases hy;exact⟨by simp,rfl,hc⟩
theorem lr{v:ρ'}{y:cV σ (dy cC ρ')}(hy:some (cV.out (dy.ret v))=some y)(h:R v (.ret,S)):qQ o rep (yt C f k iP R) y (.ret,S):=by cases hy;exact⟨by simp,h⟩
end
theorem inj{α:Type}{a b:α}(h:some a=some b):a=b:=Option.some.inj h
end Go.Ab
