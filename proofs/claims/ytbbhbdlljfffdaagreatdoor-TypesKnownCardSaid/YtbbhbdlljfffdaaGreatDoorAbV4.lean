import Derived.Test.YtbbhbdlljfffdaaGreatDoorAbV3
open Bool renaming false_eq_true→Do
open Nat renaming le_of_ble_eq_true→GT
open Option renaming bind_some→AC,map_some→GE,bind_eq_some_iff→Ha,bind→Hb
set_option linter.all false
namespace Go.Ab
open Go
def AV{α:Type}(a b:List α):Option Unit:=if a.length=b.length then some ()else none
theorem Zk{α:Type}{a b:List α}{u:Unit}(h:AV a b=some u):a.length=b.length:=by unfold AV at h;split at h;·{(first|(with_reducible assumption)|assumption)};·cases h
section
variable{L:Id→Option (Option Rows)}{id:Id}{cs old as bs args:List U}{n m:Nat}{α:Type}{c:α→List U}{q q0:List α}{w w2:List (Id×Option Rows)}{a b:U}{j:Nat}{l:List Nat}
theorem aib(ha:a= .mp id 0 0:=by exact rfl)(hb:b= .aT cs:=by exact rfl)(hh:L id=some (some [old]):=by exact rfl)(hl:cs.length=old.length:=by exact rfl):jk L a b=some [(id,some [cs])]:=by subst ha hb;simp[jk,hh,hl]
theorem aic(hlen:q.length=q0.length)(ha:a= .rs id 0 m:=by exact rfl)(hb:b= .own (q.map c) q.length:=by exact rfl)(hh:L id=some (some (q0.map c)):=by exact rfl)(hm:m=q0.length:=by exact um)(hn:∀x,(c x).length=n:=by exact fun _=>rfl):jk L a b=some [(id,some (q.map c))]:=by subst ha hb hm;cases q0 with|nil=>(obtain rfl:q=[]:=List.length_eq_zero_iff.1 hlen;simp only[List.map_nil]at hh;simp[jk,hh])|cons x q0=>simp only[List.map_cons]at hh;simp only[jk,hh];rw[if_pos ⟨by simpa using hlen,by simpa using hlen,by simp,by simp[hn]⟩]
theorem aid{r:Rows}(ha:a= .sl r:=by exact rfl):jk L a b=some []:=by subst ha;rfl
theorem ahC(ha:as=[]:=by exact rfl)(hb:bs=[]:=by exact rfl):jE L as bs=some []:=by subst ha hb;rfl
theorem ahB(ha:cs=a::as)(hb:old=b::bs)(h1:jk L a b=some w)(h2:jE L as bs=some w2):jE L cs old=some (w++w2):=by subst ha hb;simp[jE,h1,h2]
theorem aia(hn:(match a with| .agg _=>false|_=>true)=true)(h:jk L a b=some w):rA L a b=some w:=by cases a<;>first|exact h|cases hn
theorem ahV(hb:bs=[]:=by exact rfl):gH L args [] bs=some []:=by subst hb;rfl
theorem ahU(hb:old=b::bs)(ha:args[j]? =some a)(h1:rA L a b=some w)(h2:gH L args l bs=some w2):gH L args (j::l) old=some (w++w2):=by subst hb;simp[gH,ha,h1,h2]
theorem rlk{y:Option (List (Id×Option Rows))}(h:gH L args l bs=y:=by repeat'(first|exact ahV|exact aib|exact amL|exact aid|exact aic (by(first|(with_reducible assumption)|assumption))|exact ahC|(apply ahB;exact rfl;exact rfl)|(apply amK;exact rfl;exact rfl)|(apply aia;exact rfl)|(apply ahU;exact rfl;exact rfl))):gH L args l bs=y:=h
end
section
variable{C:aG}{f:FuncId}{call:fL}{S:ah}{g:Bool}
variable{d:Nat}{ty:TypeId}{pos:String}{aV:Array Edge}{bB:Option (Nat×Bool)}{v v':U}
theorem uu{xs:Array Operand}{ts:Array TypeId}{dr:FuncId}{ms cv:List Nat}{args outs:List U}{seen tk di:List Id}{r:U}{back jG wr:List (Id×Option Rows)}(hc:call dr args=some (r,outs))(hm:C.wX dr=ms:=by exact rfl)(hm0:ms.isEmpty=false:=by exact rfl)(hle:C.cv dr=cv:=by exact rfl)(ht:jF S.h ms (xs.toList.map fun x=>un g (S.get C x))=some (args,seen,tk,di):=by exact Tg)(hz:(C.eD f).contains d=false:=by exact rfl)(hb:gH S.h (xs.toList.map fun x=>un g (S.get C x)) cv outs=some back:=by exact rlk)(h1:(dP (tk++di)&&rY seen (tk++di))=true:=by exact rfl)(h2:(seen.isEmpty||mine r&&outs.all mine)=true:=by first|exact rfl|exact aaZ Fu aeL)(h3:(dP (back.map (·.1))&&(back.all fun x=>tk.contains x.1))=true:=by exact rfl)(hi:imp [d] r=(v',jG):=by exact wH)(hf:fresh S.h jG=true:=by exact rfl)(hw:jG++(back++(tk++di).map fun i=>(i,none))=wr:=by exact spine)(nQ:C.path dr=none:=by exact rfl)(ef:C.gM dr=false:=by exact rfl):bA C f call S g ⟨some d, .call ⟨.value (.func dr),xs,ts⟩,ty,pos,aV,bB⟩=some ⟨[(d,v')],seen,wr⟩:=NP hm hm0 hle ht hc (v:=r) (by simp only[eJ,hz,Do,if_false]) hb h1 h2 h3 hi hf hw nQ ef
theorem FH{xs:Array Operand}{ts:Array TypeId}{dr:FuncId}{ms cv:List Nat}{args outs:List U}{seen tk di:List Id}{r:U}{back jG wr:List (Id×Option Rows)}(hc:call dr args=some (r,outs))(hm:C.wX dr=ms:=by exact rfl)(hm0:ms.isEmpty=false:=by exact rfl)(hle:C.cv dr=cv:=by exact rfl)(ht:jF S.h ms (xs.toList.map fun x=>un g (S.get C x))=some (args,seen,tk,di):=by exact Tg)(hz:(C.eD f).contains d=true:=by exact rfl)(hv:dG r=v:=by exact Bd)(hb:gH S.h (xs.toList.map fun x=>un g (S.get C x)) cv outs=some back:=by exact rlk)(h1:(dP (tk++di)&&rY seen (tk++di))=true:=by exact rfl)(h2:(seen.isEmpty||mine r&&outs.all mine)=true:=by first|exact rfl|exact aaZ Fu aeL)(h3:(dP (back.map (·.1))&&(back.all fun x=>tk.contains x.1))=true:=by exact rfl)(hi:imp [d] v=(v',jG):=by exact wH)(hf:fresh S.h jG=true:=by exact rfl)(hw:jG++(back++(tk++di).map fun i=>(i,none))=wr:=by exact spine)(nQ:C.path dr=none:=by exact rfl)(ef:C.gM dr=false:=by exact rfl):bA C f call S g ⟨some d, .call ⟨.value (.func dr),xs,ts⟩,ty,pos,aV,bB⟩=some ⟨[(d,v')],seen,wr⟩:=NP hm hm0 hle ht hc (v:=v) (by simp only[eJ,hz,if_true,hv]) hb h1 h2 h3 hi hf hw nQ ef
end
theorem fj{C:aG}{f:FuncId}{a b:Nat}{args:List U}{r:Option (U×List U)}(h:den C a f args=r)(e:a=b):den C b f args=r:=e▸h
/-! ### Functions -/
def uC:List U→U|[r]=>r|vs=> .aS vs
def Fin(C:aG)(rv:List ResultVar)(cv:List Nat)(r:U)(outs:List U)(x:Exit×ah):Prop:=(x.1= .ret∨x.1= .normal)∧∃vs ids is,ku C x.2 rv=some (vs,ids)∧jD x.2.h x.2.t cv=some (outs,is)∧dP (ids++is)=true∧uC vs=r
section
variable{C:aG}{f:FuncId}{call:fL}{S:ah}{T:TypeId}
variable{rv:List ResultVar}{cv:List Nat}{vs outs cs r:List U}{ids is:List Id}{v v':U}
theorem ah5:ku C S []=some ([],[]):=rfl
theorem ah7{t:Nat}(h:pk S.h 9 (un true (S.t t))=some (v,ids))(hr:ku C S rv=some (vs,is)):ku C S (.tmp t::rv)=some (v::vs,ids++is):=by show(uH C S (.tmp t)).bind _=_;simp only[uH,h,AC,hr,GE]
theorem ah6{a m:Nat}{id:Id}{bb:Bool}[ha:cU C T bb m](hx:un true (S.t a)= .mp id 0 0)(hh:S.h id=some (some [r]))(hl:Nat.ble m r.length=true)(hv:iL bb (r.take m)=some v)(h:pk S.h 9 v=some (v',ids))(hr:ku C S rv=some (vs,is)):ku C S (.cell a T::rv)=some (v'::vs,id::ids++is):=by show(uH C S (.cell a T)).bind _=_;have hl':0+m≤r.length:=by{have:=GT hl;omega};simp only[uH,ha.jP,ha.sz,hx,hh,List.getElem?_cons_zero,if_pos hl',List.drop_zero,hv,AC,h,hr,GE]
theorem Fy{cells:List U}(hc:cells=[v]):iL false cells=some v:=by subst hc;rfl
theorem Fx{cells:List U}(hc:cells=cs:=by exact spine):iL true cells=some (.agg cs):=by subst hc;rfl
theorem Lz{y:Option (List U×List Id)}(h:ku C S rv=y:=by repeat'(first|with_reducible exact ah5|((with_reducible apply ah7);exact lV)|((with_reducible apply ah6);exact rfl;exact rfl;exact rfl;(first|exact Fx|exact Fy rfl);exact lV)|((with_reducible apply amJ);exact rfl;exact rfl;(first|exact Fx|exact Fy rfl);exact lV))):ku C S rv=y:=h
theorem fin{r:U}(h:ku C S rv=some (vs,ids):=by exact Lz)(hp:jD S.h S.t cv=some (outs,is):=by exact F2)(hn:dP (ids++is)=true:=by exact rfl)(hr:uC vs=r:=by exact rfl):Fin C rv cv r outs (.ret,S):=⟨.inl rfl,vs,ids,is,h,hp,hn,hr⟩
theorem cD{fn:Func}{c:Code}{args:List U}{nn N:Nat}{r:U}{t:Nat→U}{h:Id→Option (Option Rows)}{sl:List Nat}(hf:C.P.funcs[f]? =some fn)(hn:fn.ntmps=N)(hr:fn.results.toList=rv)(k:W C f (den C nn) c ⟨N,t,h⟩ (Fin C rv cv r outs))(hb:fn.body=some c:=by exact rfl)(he:C.ext f=none:=by exact rfl)(hle:C.cv f=cv:=by exact rfl)(hl:Nat.ble args.length N=true:=by exact rfl)(jX:List.range args.length=sl:=by exact rfl)(hm:aL N sl args=⟨N,t,h⟩:=by exact Fz)(ef:C.gM f=false:=by exact rfl):den C (nn+1) f args=some (r,outs):=by obtain⟨⟨e,s⟩,h1,h2,vs,ids,is,h3,h6,h4,h5⟩:=k;subst hr hn hle jX;show qN C (den C nn) jz f args=_;unfold qN;simp only[he,hf,hb,ef,Do,if_false,if_pos (GT hl),hm,h1,AC];have cR:finish C fn (C.cv f) args s=some (r,outs):=by{unfold finish;simp only at h3 h6;rw[h3,h6];simp only[h4,if_true];rw[←h5];congr 2;cases vs with|nil=>(rfl)|cons a l=>cases l<;>rfl};rcases h2 with h2|h2;·{simp only at h2;subst h2;exact cR};·simp only at h2;subst h2;exact cR
end
/-! ### Loops -/
def cP.go{bW ρ ρ':Type}(kb:bW→Option ρ)(oS:ρ'→Option ρ):cP bW ρ'→Option ρ| .dS x=>kb x| .ret r=>oS r
section
variable{C:aG}{f:FuncId}{call:fL}{S:ah}{Q:Exit×ah→Prop}{c:Code}{σ bW ρ ρ':Type}{r:ρ}{k:Nat}{o:Option (Bool×List Nat)}{rep:σ→ah}[jI]
def vb(o:Option (Bool×List Nat))(rep:σ→ah)(Rel:bW→Exit×ah→Prop)(y:cG σ bW)(x:Exit×ah):Prop:=match y with| .next s'=>x.1= .normal∧dm o x.2=some (rep s')| .out v=>x.1≠ .normal∧Rel v x
def tT(C:aG)(f:FuncId)(c:Code):Option (Bool×List Nat):=match me c with|some i=>some (C.shr f i,C.live f i)|none=>some (false,[])
theorem QW{step:σ→Option (cG σ bW)}(Rel:bW→Exit×ah→Prop){e3:σ}{v:bW}(hL:Loop step e3=some v)(h0:dm (tT C f c) S=some (rep e3))
  (body:∀s y,step s=some y→W C f call c (rep s) (vb (tT C f c) rep Rel y)):∃x,ct C f call jz (.loop c) S=some x∧Rel v x:=by
 obtain⟨m,hm⟩:=GG hL
 have key:∀(b:Bool)(slots:List Nat),tT C f c=some (b,slots)→(match me c with|some i=>C.live f i|none=>[])=slots→(match me c with|some i=>C.shr f i|none=>false)=b→∃x,ct C f call jz (.loop c) S=some x∧Rel v x:=by
  intro b slots hk hs hb
  rw[hk]at h0 body
  cases b with
  |true=>
   have key:∀m s,LoopN step m s=some v→∃x,jz ah (fun S'=>ct C f call jz c S') (fun S'=>norm S' slots) (rep s)=some x∧Rel v x:=by
    intro m
    induction m with
    |zero=>intro s h;simp[LoopN]at h
    |succ m ih=>
     intro s h
     simp only[LoopN,Ha]at h
     obtain⟨y,h1,h2⟩:=h
     obtain⟨⟨e,S'⟩,h3,h4⟩:=body s y h1
     rw[QX]
     simp only[h3,AC]
     cases y with
     |next s'=>
      obtain⟨rfl,h5⟩:=h4
      have h5:norm S' slots=some (rep s'):=h5
      simp only[h5,AC]
      exact ih s' h2
     |out o'=>
      obtain⟨h5,h6⟩:=h4
      obtain rfl:o'=v:=by simpa using h2
      cases e with
      |normal=>exact absurd rfl h5
      |_=>exact⟨_,rfl,h6⟩
   obtain⟨x,h3,h4⟩:=key m e3 hm
   refine⟨x, ?_,h4⟩
   subst hs
   simp only[ct]
   refine(if_pos hb).trans ?_
   exact(congrArg (Hb · _) (show norm S _=some (rep e3)from h0)).trans h3
  |false=>
   have h0:(jl S slots).map (aL S.n slots)=some (rep e3):=h0
   obtain⟨aiX,aaW,aaX⟩:=Option.map_eq_some_iff.1 h0
   have hn:∀s,(∃o4,aL S.n slots o4=rep s)→(rep s).n=S.n:=fun s⟨o4,h⟩=>by rw[←h,zn]
   have key:∀m s o4,aL S.n slots o4=rep s→LoopN step m s=some v→∃x,jz (List U) (fun cm=>ct C f call jz c (aL S.n slots cm)) (fun S'=>jl S' slots) o4=some x∧Rel v x:=by
    intro m
    induction m with
    |zero=>intro s o4 _ h;simp[LoopN]at h
    |succ m ih=>
     intro s o4 Qf h
     simp only[LoopN,Ha]at h
     obtain⟨y,h1,h2⟩:=h
     obtain⟨⟨e,S'⟩,h3,h4⟩:=body s y h1
     rw[QX]
     simp only[Qf,h3,AC]
     cases y with
     |next s'=>
      obtain⟨rfl,h5⟩:=h4
      have h5:(jl S' slots).map (aL S'.n slots)=some (rep s'):=h5
      obtain⟨aiW,aa8,Pu⟩:=Option.map_eq_some_iff.1 h5
      have sj:S'.n=S.n:=by rw[Ep zj _ _ _ h3];exact hn s ⟨o4,Qf⟩
      rw[sj]at Pu
      simp only[aa8,AC]
      exact ih s' aiW Pu h2
     |out o'=>
      obtain⟨h5,h6⟩:=h4
      obtain rfl:o'=v:=by simpa using h2
      cases e with
      |normal=>exact absurd rfl h5
      |_=>exact⟨_,rfl,h6⟩
   obtain⟨x,h3,h4⟩:=key m e3 aiX aaX hm
   refine⟨x, ?_,h4⟩
   subst hs
   simp only[ct]
   refine(if_neg fun e=>Bool.noConfusion (hb.symm.trans e)).trans ?_
   exact(congrArg (Hb · _) aaW).trans h3
 unfold tT at key
 split at key
 ·exact key _ _ rfl rfl rfl
 ·exact key _ _ rfl rfl rfl
def DT(C:aG)(f:FuncId)(k:Nat)(fF:bW→ah)(v:bW)(x:Exit×ah):Prop:=x.1= .exit k∧dm (C.oz f k) x.2=some (fF v)
def DU(C:aG)(f:FuncId)(k:Nat)(fF:bW→ah)(R:ρ'→Exit×ah→Prop):cP bW ρ'→Exit×ah→Prop| .dS v,x=>DT C f k fF v x| .ret r,x=>R r x
theorem bX{step:σ→Option (cG σ bW)}{e3:σ}{o8:bW→Option ρ}(rep:σ→ah)(fF:bW→ah)(hF:(Loop step e3).bind o8=some r)(h0:dm (tT C f c) S=some (rep e3))(body:∀s y,step s=some y→W C f call c (rep s) (vb (tT C f c) rep (DT C f k fF) y))(post:∀v,o8 v=some r→Q (.normal,fF v)):W C f call (.block k (.loop c)) S Q:=by obtain⟨v,h1,h2⟩:=Ea hF;obtain⟨⟨e,S'⟩,h3,rfl,h5⟩:=QW (DT C f k fF) h1 h0 body;exact cx ⟨_,h3,Sk h5 (post v h2)⟩
theorem j0{step:σ→Option (cG σ (cP bW ρ'))}{e3:σ}{kb:bW→Option ρ}{oS:ρ'→Option ρ}(rep:σ→ah)(fF:bW→ah)(R:ρ'→Exit×ah→Prop)(hF:(Loop step e3).bind (cP.go kb oS)=some r)(h0:dm (tT C f c) S=some (rep e3))(body:∀s y,step s=some y→W C f call c (rep s) (vb (tT C f c) rep (DU C f k fF R) y))(post:∀v,kb v=some r→Q (.normal,fF v))(Ew:∀v,oS v=some r→∀x,R v x→pn C f k Q x):W C f call (.block k (.loop c)) S Q:=by obtain⟨v,h1,h2⟩:=Ea hF;obtain⟨x,h3,h4⟩:=QW (DU C f k fF R) h1 h0 body;cases v with|dS v=>(obtain⟨e,S'⟩:=x;obtain⟨rfl,h5⟩:=h4;exact cx ⟨_,h3,Sk h5 (post v h2)⟩)|ret v=>exact cx ⟨_,h3,Ew v h2 _ h4⟩
variable{Rel:bW→Exit×ah→Prop}{fF:bW→ah}{R:ρ'→Exit×ah→Prop}
theorem ln{s':σ}{y:cG σ bW}(hy:some (cG.next s')=some y)(hc:dm o S=some (rep s')):vb o rep Rel y (.normal,S):=by cases hy;exact⟨rfl,hc⟩
theorem lx{v:bW}{y:cG σ bW}(hy:some (cG.out v)=some y)(hc:dm (C.oz f k) S=some (fF v)):vb o rep (DT C f k fF) y (.exit k,S):=by cases hy;exact⟨by simp,rfl,hc⟩
theorem lp{v:bW}{y:cG σ (cP bW ρ')}(hy:some (cG.out (cP.dS v))=some y)(hc:dm (C.oz f k) S=some (fF v)):vb o rep (DU C f k fF R) y (.exit k,S):=by cases hy;exact⟨by simp,rfl,hc⟩
theorem lr{v:ρ'}{y:cG σ (cP bW ρ')}(hy:some (cG.out (cP.ret v))=some y)(h:R v (.ret,S)):vb o rep (DU C f k fF R) y (.ret,S):=by cases hy;exact⟨by simp,h⟩
end
theorem inj{α:Type}{a b:α}(h:some a=some b):a=b:=Option.some.inj h
end Go.Ab
