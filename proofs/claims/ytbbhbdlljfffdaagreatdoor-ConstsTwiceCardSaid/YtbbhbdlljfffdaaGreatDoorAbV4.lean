import Derived.Test.YtbbhbdlljfffdaaGreatDoorAbV3
open Nat renaming le_of_ble_eq_true→Ha
open Option renaming bind_some→GE,map_some→GT,bind_eq_some_iff→Hb,bind→Hc
set_option linter.all false
namespace Go.Ab
open Go
def xw{α:Type}(a b:List α):Option Unit:=if a.length=b.length then some ()else none
theorem TC{α:Type}{a b:List α}{u:Unit}(h:xw a b=some u):a.length=b.length:=by unfold xw at h;split at h;·{(first|(with_reducible assumption)|assumption)};·cases h
section
variable{L:Id→Option (Option Rows)}{id:Id}{cs old as bs args:List U}{n m:Nat}{α:Type}{c:α→List U}{q q0:List α}{w w2:List (Id×Option Rows)}{a b:U}{j:Nat}{l:List Nat}
theorem abV(hlen:q.length=q0.length)(ha:a= .rs id 0 m:=by exact rfl)(hb:b= .own (q.map c) q.length:=by exact rfl)(hh:L id=some (some (q0.map c)):=by exact rfl)(hm:m=q0.length:=by exact pI)(hn:∀x,(c x).length=n:=by exact fun _=>rfl):iG L a b=some [(id,some (q.map c))]:=by subst ha hb hm;cases q0 with|nil=>(obtain rfl:q=[]:=List.length_eq_zero_iff.1 hlen;simp only[List.map_nil]at hh;simp[iG,hh])|cons x q0=>simp only[List.map_cons]at hh;simp only[iG,hh];rw[AC ⟨by simpa using hlen,by simpa using hlen,by simp,by simp[hn]⟩]
theorem abW{r:Rows}(ha:a= .sl r:=by exact rfl):iG L a b=some []:=by subst ha;rfl
theorem abo(ha:as=[]:=by exact rfl)(hb:bs=[]:=by exact rfl):gS L as bs=some []:=by subst ha hb;rfl
theorem abn(ha:cs=a::as)(hb:old=b::bs)(h1:iG L a b=some w)(h2:gS L as bs=some w2):gS L cs old=some (w++w2):=by subst ha hb;simp[gS,h1,h2]
theorem abH(hb:bs=[]:=by exact rfl):fJ L args [] bs=some []:=by subst hb;rfl
theorem abG(hb:old=b::bs)(ha:args[j]? =some a)(h1:pR L a b=some w)(h2:fJ L args l bs=some w2):fJ L args (j::l) old=some (w++w2):=by subst hb;simp[fJ,ha,h1,h2]
theorem rlk{y:Option (List (Id×Option Rows))}(h:fJ L args l bs=y:=by repeat'(first|exact abH|exact agH|exact agI|exact abW|exact abV (by(first|(with_reducible assumption)|assumption))|exact abo|(apply abn;exact rfl;exact rfl)|(apply agG;exact rfl;exact rfl)|(apply agF;exact rfl)|(apply abG;exact rfl;exact rfl))):fJ L args l bs=y:=h
end
section
variable{C:av}{f:FuncId}{call:eT}{S:ah}{g:Bool}
variable{d:Nat}{ty:TypeId}{pos:String}{aD:Array Edge}{aS:Option (Nat×Bool)}{v v':U}
theorem Zj{xs:Array Operand}{ts:Array TypeId}{cK:FuncId}{ms bR:List Nat}{args outs:List U}{seen tk cJ:List Id}{r:U}{back jt wr:List (Id×Option Rows)}(hc:call cK args=some (r,outs))(hm:C.vC cK=ms:=by exact rfl)(hm0:ms.isEmpty=false:=by exact rfl)(hle:C.bR cK=bR:=by exact rfl)(ht:ie S.h ms (xs.toList.map fun x=>un g (S.get C x))=some (args,seen,tk,cJ):=by exact acF)(hz:(C.dB f).contains d=true:=by exact rfl)(hv:cI r=v:=by exact xN)(hb:fJ S.h (xs.toList.map fun x=>un g (S.get C x)) bR outs=some back:=by exact rlk)(h1:(cY (tk++cJ)&&qi seen (tk++cJ))=true:=by exact rfl)(h2:(seen.isEmpty||mine r&&outs.all mine)=true:=by first|exact rfl|exact ae7 Lz afL)(h3:(cY (back.map (·.1))&&(back.all fun x=>tk.contains x.1))=true:=by exact rfl)(hi:imp [d] v=(v',jt):=by exact vm)(hf:fresh S.h jt=true:=by exact rfl)(hw:jt++(back++(tk++cJ).map fun i=>(i,none))=wr:=by exact spine)(pg:C.path cK=none:=by exact rfl)(cW:C.fD cK=false:=by exact rfl):aR C f call S g ⟨some d, .call ⟨.value (.func cK),xs,ts⟩,ty,pos,aD,aS⟩=some ⟨[(d,v')],seen,wr⟩:=Si hm hm0 hle ht hc (v:=v) (by simp only[dI,hz,if_true,hv]) hb h1 h2 h3 hi hf hw pg cW
end
theorem qk{C:av}{f:FuncId}{a b:Nat}{args:List U}{r:Option (U×List U)}(h:den C a f args=r)(e:a=b):den C b f args=r:=e▸h
/-! ### Functions -/
def q6:List U→U|[r]=>r|vs=> .aG vs
def Fin(C:av)(rv:List ResultVar)(bR:List Nat)(r:U)(outs:List U)(x:Exit×ah):Prop:=(x.1= .ret∨x.1= .normal)∧∃vs ids is,iH C x.2 rv=some (vs,ids)∧gR x.2.h x.2.t bR=some (outs,is)∧cY (ids++is)=true∧q6 vs=r
section
variable{C:av}{f:FuncId}{call:eT}{S:ah}{T:TypeId}
variable{rv:List ResultVar}{bR:List Nat}{vs outs cs r:List U}{ids is:List Id}{v v':U}
theorem abR:iH C S []=some ([],[]):=rfl
theorem abT{t:Nat}(h:pk S.h 9 (un true (S.t t))=some (v,ids))(hr:iH C S rv=some (vs,is)):iH C S (.tmp t::rv)=some (v::vs,ids++is):=by show(ri C S (.tmp t)).bind _=_;simp only[ri,h,GE,hr,GT]
theorem abS{a m:Nat}{id:Id}{bb:Bool}[ha:cu C T bb m](hx:un true (S.t a)= .mp id 0 0)(hh:S.h id=some (some [r]))(hl:Nat.ble m r.length=true)(hv:gN bb (r.take m)=some v)(h:pk S.h 9 v=some (v',ids))(hr:iH C S rv=some (vs,is)):iH C S (.cell a T::rv)=some (v'::vs,id::ids++is):=by show(ri C S (.cell a T)).bind _=_;have hl':0+m≤r.length:=by{have:=Ha hl;omega};simp only[ri,ha.ja,ha.sz,hx,hh,List.getElem?_cons_zero,AC hl',List.drop_zero,hv,GE,h,hr,GT]
theorem BL{cells:List U}(hc:cells=cs:=by exact spine):gN true cells=some (.agg cs):=by subst hc;rfl
theorem GJ{y:Option (List U×List Id)}(h:iH C S rv=y:=by repeat'(first|with_reducible exact abR|((with_reducible apply abT);exact jJ)|((with_reducible apply abS);exact rfl;exact rfl;exact rfl;(first|exact BL|exact FI rfl);exact jJ)|((with_reducible apply agE);exact rfl;exact rfl;(first|exact BL|exact FI rfl);exact jJ))):iH C S rv=y:=h
theorem fin{r:U}(h:iH C S rv=some (vs,ids):=by exact GJ)(hp:gR S.h S.t bR=some (outs,is):=by exact B9)(hn:cY (ids++is)=true:=by exact rfl)(hr:q6 vs=r:=by exact rfl):Fin C rv bR r outs (.ret,S):=⟨.inl rfl,vs,ids,is,h,hp,hn,hr⟩
theorem cl{fn:Func}{c:Code}{args:List U}{nn N:Nat}{r:U}{t:Nat→U}{h:Id→Option (Option Rows)}{sl:List Nat}(hf:C.P.funcs[f]? =some fn)(hn:fn.ntmps=N)(hr:fn.results.toList=rv)(k:W C f (den C nn) c ⟨N,t,h⟩ (Fin C rv bR r outs))(hb:fn.body=some c:=by exact rfl)(he:C.ext f=none:=by exact rfl)(hle:C.bR f=bR:=by exact rfl)(hl:Nat.ble args.length N=true:=by exact rfl)(hO:List.range args.length=sl:=by exact rfl)(hm:aC N sl args=⟨N,t,h⟩:=by exact FJ)(cW:C.fD f=false:=by exact rfl):den C (nn+1) f args=some (r,outs):=by obtain⟨⟨e,s⟩,h1,h2,vs,ids,is,h3,h6,h4,h5⟩:=k;subst hr hn hle hO;show nU C (den C nn) iC f args=_;unfold nU;simp only[he,hf,hb,cW,Bool.false_eq_true,if_false,AC (Ha hl),hm,h1,GE];have cz:finish C fn (C.bR f) args s=some (r,outs):=by{unfold finish;simp only at h3 h6;rw[h3,h6];simp only[h4,if_true];rw[←h5];congr 2;cases vs with|nil=>(rfl)|cons a l=>cases l<;>rfl};rcases h2 with h2|h2;·{simp only at h2;subst h2;exact cz};·simp only at h2;subst h2;exact cz
end
/-! ### Loops -/
def cO.go{bH ρ ρ':Type}(kb:bH→Option ρ)(BD:ρ'→Option ρ):cO bH ρ'→Option ρ| .fV x=>kb x| .ret r=>BD r
section
variable{C:av}{f:FuncId}{call:eT}{S:ah}{Q:Exit×ah→Prop}{c:Code}{σ bH ρ ρ':Type}{r:ρ}{k:Nat}{o:Option (Bool×List Nat)}{rep:σ→ah}[ju]
def rO(o:Option (Bool×List Nat))(rep:σ→ah)(Rel:bH→Exit×ah→Prop)(y:cn σ bH)(x:Exit×ah):Prop:=match y with| .next s'=>x.1= .normal∧c7 o x.2=some (rep s')| .out v=>x.1≠ .normal∧Rel v x
def qC(C:av)(f:FuncId)(c:Code):Option (Bool×List Nat):=match jV c with|some i=>some (C.shr f i,C.live f i)|none=>some (false,[])
theorem Lt{step:σ→Option (cn σ bH)}(Rel:bH→Exit×ah→Prop){eO:σ}{v:bH}(hL:Loop step eO=some v)(h0:c7 (qC C f c) S=some (rep eO))
  (body:∀s y,step s=some y→W C f call c (rep s) (rO (qC C f c) rep Rel y)):∃x,bL C f call iC (.loop c) S=some x∧Rel v x:=by
 obtain⟨m,hm⟩:=CL hL
 have key:∀(b:Bool)(slots:List Nat),qC C f c=some (b,slots)→(match jV c with|some i=>C.live f i|none=>[])=slots→(match jV c with|some i=>C.shr f i|none=>false)=b→∃x,bL C f call iC (.loop c) S=some x∧Rel v x:=by
  intro b slots hk hs hb
  rw[hk]at h0 body
  cases b with
  |true=>
   have key:∀m s,LoopN step m s=some v→∃x,iC ah (fun S'=>bL C f call iC c S') (fun S'=>norm S' slots) (rep s)=some x∧Rel v x:=by
    intro m
    induction m with
    |zero=>intro s h;simp[LoopN]at h
    |succ m ih=>
     intro s h
     simp only[LoopN,Hb]at h
     obtain⟨y,h1,h2⟩:=h
     obtain⟨⟨e,S'⟩,h3,h4⟩:=body s y h1
     rw[Lu]
     simp only[h3,GE]
     cases y with
     |next s'=>
      obtain⟨rfl,h5⟩:=h4
      have h5:norm S' slots=some (rep s'):=h5
      simp only[h5,GE]
      exact ih s' h2
     |out o'=>
      obtain⟨h5,h6⟩:=h4
      obtain rfl:o'=v:=by simpa using h2
      cases e with
      |normal=>exact absurd rfl h5
      |_=>exact⟨_,rfl,h6⟩
   obtain⟨x,h3,h4⟩:=key m eO hm
   refine⟨x, ?_,h4⟩
   subst hs
   simp only[bL]
   refine(AC hb).trans ?_
   exact(congrArg (Hc · _) (show norm S _=some (rep eO)from h0)).trans h3
  |false=>
   have h0:(gz S slots).map (aC S.n slots)=some (rep eO):=h0
   obtain⟨acR,Vl,Vm⟩:=Option.map_eq_some_iff.1 h0
   have hn:∀s,(∃mD,aC S.n slots mD=rep s)→(rep s).n=S.n:=fun s⟨mD,h⟩=>by rw[←h,vB]
   have key:∀m s mD,aC S.n slots mD=rep s→LoopN step m s=some v→∃x,iC (List U) (fun bB=>bL C f call iC c (aC S.n slots bB)) (fun S'=>gz S' slots) mD=some x∧Rel v x:=by
    intro m
    induction m with
    |zero=>intro s mD _ h;simp[LoopN]at h
    |succ m ih=>
     intro s mD KV h
     simp only[LoopN,Hb]at h
     obtain⟨y,h1,h2⟩:=h
     obtain⟨⟨e,S'⟩,h3,h4⟩:=body s y h1
     rw[Lu]
     simp only[KV,h3,GE]
     cases y with
     |next s'=>
      obtain⟨rfl,h5⟩:=h4
      have h5:(gz S' slots).map (aC S'.n slots)=some (rep s'):=h5
      obtain⟨acQ,Vy,Kh⟩:=Option.map_eq_some_iff.1 h5
      have o5:S'.n=S.n:=by rw[AY vz _ _ _ h3];exact hn s ⟨mD,KV⟩
      rw[o5]at Kh
      simp only[Vy,GE]
      exact ih s' acQ Kh h2
     |out o'=>
      obtain⟨h5,h6⟩:=h4
      obtain rfl:o'=v:=by simpa using h2
      cases e with
      |normal=>exact absurd rfl h5
      |_=>exact⟨_,rfl,h6⟩
   obtain⟨x,h3,h4⟩:=key m eO acR Vm hm
   refine⟨x, ?_,h4⟩
   subst hs
   simp only[bL]
   refine(Do fun e=>Bool.noConfusion (hb.symm.trans e)).trans ?_
   exact(congrArg (Hc · _) Vl).trans h3
 unfold qC at key
 split at key
 ·exact key _ _ rfl rfl rfl
 ·exact key _ _ rfl rfl rfl
def Al(C:av)(f:FuncId)(k:Nat)(iX:bH→ah)(v:bH)(x:Exit×ah):Prop:=x.1= .exit k∧c7 (C.lT f k) x.2=some (iX v)
def Am(C:av)(f:FuncId)(k:Nat)(iX:bH→ah)(R:ρ'→Exit×ah→Prop):cO bH ρ'→Exit×ah→Prop| .fV v,x=>Al C f k iX v x| .ret r,x=>R r x
theorem bk{step:σ→Option (cn σ bH)}{eO:σ}{p4:bH→Option ρ}(rep:σ→ah)(iX:bH→ah)(hF:(Loop step eO).bind p4=some r)(h0:c7 (qC C f c) S=some (rep eO))(body:∀s y,step s=some y→W C f call c (rep s) (rO (qC C f c) rep (Al C f k iX) y))(post:∀v,p4 v=some r→Q (.normal,iX v)):W C f call (.block k (.loop c)) S Q:=by obtain⟨v,h1,h2⟩:=AD hF;obtain⟨⟨e,S'⟩,h3,rfl,h5⟩:=Lt (Al C f k iX) h1 h0 body;exact cC ⟨_,h3,MJ h5 (post v h2)⟩
theorem j5{step:σ→Option (cn σ (cO bH ρ'))}{eO:σ}{kb:bH→Option ρ}{BD:ρ'→Option ρ}(rep:σ→ah)(iX:bH→ah)(R:ρ'→Exit×ah→Prop)(hF:(Loop step eO).bind (cO.go kb BD)=some r)(h0:c7 (qC C f c) S=some (rep eO))(body:∀s y,step s=some y→W C f call c (rep s) (rO (qC C f c) rep (Am C f k iX R) y))(post:∀v,kb v=some r→Q (.normal,iX v))(A4:∀v,BD v=some r→∀x,R v x→mJ C f k Q x):W C f call (.block k (.loop c)) S Q:=by obtain⟨v,h1,h2⟩:=AD hF;obtain⟨x,h3,h4⟩:=Lt (Am C f k iX R) h1 h0 body;cases v with|fV v=>(obtain⟨e,S'⟩:=x;obtain⟨rfl,h5⟩:=h4;exact cC ⟨_,h3,MJ h5 (post v h2)⟩)|ret v=>exact cC ⟨_,h3,A4 v h2 _ h4⟩
variable{Rel:bH→Exit×ah→Prop}{iX:bH→ah}{R:ρ'→Exit×ah→Prop}
theorem ln{s':σ}{y:cn σ bH}(hy:some (cn.next s')=some y)(hc:c7 o S=some (rep s')):rO o rep Rel y (.normal,S):=by cases hy;exact⟨rfl,hc⟩
theorem lx{v:bH}{y:cn σ bH}(hy:some (cn.out v)=some y)(hc:c7 (C.lT f k) S=some (iX v)):rO o rep (Al C f k iX) y (.exit k,S):=by cases hy;exact⟨by simp,rfl,hc⟩
theorem mo{v:bH}{y:cn σ (cO bH ρ')}(hy:some (cn.out (cO.fV v))=some y)(hc:c7 (C.lT f k) S=some (iX v)):rO o rep (Am C f k iX R) y (.exit k,S):=by cases hy;exact⟨by simp,rfl,hc⟩
theorem lr{v:ρ'}{y:cn σ (cO bH ρ')}(hy:some (cn.out (cO.ret v))=some y)(h:R v (.ret,S)):rO o rep (Am C f k iX R) y (.ret,S):=by cases hy;exact⟨by simp,h⟩
end
theorem inj{α:Type}{a b:α}(h:some a=some b):a=b:=Option.some.inj h
end Go.Ab
