import Derived.Test.YtmboghefgckkpaaGreatAbV3
namespace Go.Ab
open Go
def Fc{α:Type}(a b:List α):Option Unit:=if a.length=b.length then some ()else none
theorem ad1{α:Type}{a b:List α}{u:Unit}(h:Fc a b=some u):a.length=b.length:=by unfold Fc at h;split at h;·{(first|(with_reducible assumption)|assumption)};·cases h
section
variable{L:Id→Option (Option Rows)}{id:Id}{cs old as bs args:List aa}{n m:Nat}{α:Type}{c:α→List aa}{q q0:List α}{w w2:List (Id×Option Rows)}{a b:aa}{j:Nat}{l:List Nat}
theorem amJ(ha:a= .mp id 0 0:=by exact rfl)(hb:b= .aL cs:=by exact rfl)(hh:L id=some (some [old]):=by exact rfl)(hl:cs.length=old.length:=by exact rfl):jT L a b=some [(id,some [cs])]:=by subst ha hb;simp[jT,hh,hl]
theorem amK(hlen:q.length=q0.length)(ha:a= .rs id 0 m:=by exact rfl)(hb:b= .own (q.map c) q.length:=by exact rfl)(hh:L id=some (some (q0.map c)):=by exact rfl)(hm:m=q0.length:=by exact uj)(hn:∀x,(c x).length=n:=by exact fun _=>rfl):jT L a b=some [(id,some (q.map c))]:=by subst ha hb hm;cases q0 with|nil=>(obtain rfl:q=[]:=List.length_eq_zero_iff.1 hlen;simp only[List.map_nil]at hh;simp[jT,hh])|cons x q0=>simp only[List.map_cons]at hh;simp only[jT,hh];rw[if_pos ⟨by simpa using hlen,by simpa using hlen,by simp,by simp[hn]⟩]
theorem amL{r:Rows}(ha:a= .sl r:=by exact rfl):jT L a b=some []:=by subst ha;rfl
theorem alY(ha:as=[]:=by exact rfl)(hb:bs=[]:=by exact rfl):ku L as bs=some []:=by subst ha hb;rfl
theorem alX(ha:cs=a::as)(hb:old=b::bs)(h1:jT L a b=some w)(h2:ku L as bs=some w2):ku L cs old=some (w++w2):=by subst ha hb;simp[ku,h1,h2]
theorem amI(hn:(match a with| .agg _=>false|_=>true)=true)(h:jT L a b=some w):uA L a b=some w:=by cases a<;>first|exact h|cases hn
theorem amk(hb:bs=[]:=by exact rfl):ir L args [] bs=some []:=by subst hb;rfl
theorem amj(hb:old=b::bs)(ha:args[j]? =some a)(h1:uA L a b=some w)(h2:ir L args l bs=some w2):ir L args (j::l) old=some (w++w2):=by subst hb;simp[ir,ha,h1,h2]
theorem rlk{y:Option (List (Id×Option Rows))}(h:ir L args l bs=y:=by repeat'(first|exact amk|exact amJ|exact ar1|exact amL|exact amK (by(first|(with_reducible assumption)|assumption))|exact alY|(apply alX;exact rfl;exact rfl)|(apply ar0;exact rfl;exact rfl)|(apply amI;exact rfl)|(apply amj;exact rfl;exact rfl))):ir L args l bs=y:=h
end
section
variable{C:aU}{f:FuncId}{call:hM}{S:an}{g:Bool}
variable{d:Nat}{ty:TypeId}{pos:String}{bn:Array Edge}{bP:Option (Nat×Bool)}{v v':aa}
theorem lX{xs:Array Operand}{ts:Array TypeId}{dN:FuncId}{ms cK:List Nat}{args outs:List aa}{seen tk dS:List Id}{r:aa}{back kF wr:List (Id×Option Rows)}(hc:call dN args=some (r,outs))(hm:C.zZ dN=ms:=by exact rfl)(hm0:ms.isEmpty=false:=by exact rfl)(hle:C.cK dN=cK:=by exact rfl)(ht:ji S.h ms (xs.toList.map fun x=>un g (S.get C x))=some (args,seen,tk,dS):=by exact W1)(hz:(C.e7 f).contains d=false:=by exact rfl)(hb:ir S.h (xs.toList.map fun x=>un g (S.get C x)) cK outs=some back:=by exact rlk)(h1:(eR (tk++dS)&&vg seen (tk++dS))=true:=by exact rfl)(h2:(seen.isEmpty||mine r&&outs.all mine)=true:=by first|exact rfl|exact afo Ok ai8)(h3:(eR (back.map (·.1))&&(back.all fun x=>tk.contains x.1))=true:=by exact rfl)(hi:imp [d] r=(v',kF):=by exact zG)(hf:fresh S.h kF=true:=by exact rfl)(hw:kF++(back++(tk++dS).map fun i=>(i,none))=wr:=by exact spine)(sD:C.path dN=none:=by exact rfl)(ey:C.dy dN=false:=by exact rfl):bN C f call S g ⟨some d, .call ⟨.value (.func dN),xs,ts⟩,ty,pos,bn,bP⟩=some ⟨[(d,v')],seen,wr⟩:=Ru hm hm0 hle ht hc (v:=r) (by simp only[fc,hz,Bool.false_eq_true,if_false]) hb h1 h2 h3 hi hf hw sD ey
theorem ig{xs:Array Operand}{ts:Array TypeId}{dN:FuncId}{ms cK:List Nat}{args outs:List aa}{seen tk dS:List Id}{r:aa}{back kF wr:List (Id×Option Rows)}(hc:call dN args=some (r,outs))(hm:C.zZ dN=ms:=by exact rfl)(hm0:ms.isEmpty=false:=by exact rfl)(hle:C.cK dN=cK:=by exact rfl)(ht:ji S.h ms (xs.toList.map fun x=>un g (S.get C x))=some (args,seen,tk,dS):=by exact W1)(hz:(C.e7 f).contains d=true:=by exact rfl)(hv:eC r=v:=by exact Jy)(hb:ir S.h (xs.toList.map fun x=>un g (S.get C x)) cK outs=some back:=by exact rlk)(h1:(eR (tk++dS)&&vg seen (tk++dS))=true:=by exact rfl)(h2:(seen.isEmpty||mine r&&outs.all mine)=true:=by first|exact rfl|exact afo Ok ai8)(h3:(eR (back.map (·.1))&&(back.all fun x=>tk.contains x.1))=true:=by exact rfl)(hi:imp [d] v=(v',kF):=by exact zG)(hf:fresh S.h kF=true:=by exact rfl)(hw:kF++(back++(tk++dS).map fun i=>(i,none))=wr:=by exact spine)(sD:C.path dN=none:=by exact rfl)(ey:C.dy dN=false:=by exact rfl):bN C f call S g ⟨some d, .call ⟨.value (.func dN),xs,ts⟩,ty,pos,bn,bP⟩=some ⟨[(d,v')],seen,wr⟩:=Ru hm hm0 hle ht hc (v:=v) (by simp only[fc,hz,if_true,hv]) hb h1 h2 h3 hi hf hw sD ey
end
theorem gO{C:aU}{f:FuncId}{a b:Nat}{args:List aa}{r:Option (aa×List aa)}(h:den C a f args=r)(e:a=b):den C b f args=r:=e▸h
/-! ### Functions -/
def z5:List aa→aa|[r]=>r|vs=> .bG vs
def Fin(C:aU)(rv:List ResultVar)(cK:List Nat)(r:aa)(outs:List aa)(x:Exit×an):Prop:=(x.1= .ret∨x.1= .normal)∧∃vs ids is,lE C x.2 rv=some (vs,ids)∧kr x.2.h x.2.t cK=some (outs,is)∧eR (ids++is)=true∧z5 vs=r
section
variable{C:aU}{f:FuncId}{call:hM}{S:an}{T:TypeId}
variable{rv:List ResultVar}{cK:List Nat}{vs outs cs r:List aa}{ids is:List Id}{v v':aa}
theorem amB:lE C S []=some ([],[]):=rfl
theorem amD{t:Nat}(h:pk S.h 9 (un true (S.t t))=some (v,ids))(hr:lE C S rv=some (vs,is)):lE C S (.tmp t::rv)=some (v::vs,ids++is):=by show(xO C S (.tmp t)).bind _=_;simp only[xO,h,Option.bind_some,hr,Option.map_some]
theorem amC{a m:Nat}{id:Id}{bb:Bool}[ha:dO C T bb m](hx:un true (S.t a)= .mp id 0 0)(hh:S.h id=some (some [r]))(hl:Nat.ble m r.length=true)(hv:kS bb (r.take m)=some v)(h:pk S.h 9 v=some (v',ids))(hr:lE C S rv=some (vs,is)):lE C S (.cell a T::rv)=some (v'::vs,id::ids++is):=by show(xO C S (.cell a T)).bind _=_;have hl':0+m≤r.length:=by{have:=Nat.le_of_ble_eq_true hl;omega};simp only[xO,ha.l9,ha.sz,hx,hh,List.getElem?_cons_zero,if_pos hl',List.drop_zero,hv,Option.bind_some,h,hr,Option.map_some]
theorem Kl{cells:List aa}(hc:cells=[v]):kS false cells=some v:=by subst hc;rfl
theorem Kk{cells:List aa}(hc:cells=cs:=by exact spine):kS true cells=some (.agg cs):=by subst hc;rfl
theorem O7{y:Option (List aa×List Id)}(h:lE C S rv=y:=by repeat'(first|with_reducible exact amB|((with_reducible apply amD);exact n9)|((with_reducible apply amC);exact rfl;exact rfl;exact rfl;(first|exact Kk|exact Kl rfl);exact n9)|((with_reducible apply arZ);exact rfl;exact rfl;(first|exact Kk|exact Kl rfl);exact n9))):lE C S rv=y:=h
theorem fin{r:aa}(h:lE C S rv=some (vs,ids):=by exact O7)(hp:kr S.h S.t cK=some (outs,is):=by exact KG)(hn:eR (ids++is)=true:=by exact rfl)(hr:z5 vs=r:=by exact rfl):Fin C rv cK r outs (.ret,S):=⟨.inl rfl,vs,ids,is,h,hp,hn,hr⟩
theorem b6{fn:Func}{c:Code}{args:List aa}{nn N:Nat}{r:aa}{t:Nat→aa}{h:Id→Option (Option Rows)}{sl:List Nat}(hf:C.P.funcs[f]? =some fn)(hn:fn.ntmps=N)(hr:fn.results.toList=rv)(k:W C f (den C nn) c ⟨N,t,h⟩ (Fin C rv cK r outs))(hb:fn.body=some c:=by exact rfl)(he:C.ext f=none:=by exact rfl)(hle:C.cK f=cK:=by exact rfl)(hl:Nat.ble args.length N=true:=by exact rfl)(gG:List.range args.length=sl:=by exact rfl)(hm:aG N sl args=⟨N,t,h⟩:=by exact Km)(ey:C.dy f=false:=by exact rfl):den C (nn+1) f args=some (r,outs):=by obtain⟨⟨e,s⟩,h1,h2,vs,ids,is,h3,h6,h4,h5⟩:=k;subst hr hn hle gG;show wM C (den C nn) lz f args=_;unfold wM;simp only[he,hf,hb,ey,Bool.false_eq_true,if_false,if_pos (Nat.le_of_ble_eq_true hl),hm,h1,Option.bind_some];have cG:finish C fn (C.cK f) args s=some (r,outs):=by{unfold finish;simp only at h3 h6;rw[h3,h6];simp only[h4,if_true];rw[←h5];congr 2;cases vs with|nil=>(rfl)|cons a l=>cases l<;>rfl};rcases h2 with h2|h2;·{simp only at h2;subst h2;exact cG};·simp only at h2;subst h2;exact cG
end
/-! ### Loops -/
def b5.go{ck ρ ρ':Type}(kb:ck→Option ρ)(ry:ρ'→Option ρ):b5 ck ρ'→Option ρ| .cF x=>kb x| .ret r=>ry r
section
variable{C:aU}{f:FuncId}{call:hM}{S:an}{Q:Exit×an→Prop}{c:Code}{σ ck ρ ρ':Type}{r:ρ}{k:Nat}{o:Option (Bool×List Nat)}{rep:σ→an}
def wA(o:Option (Bool×List Nat))(rep:σ→an)(Rel:ck→Exit×an→Prop)(y:cx σ ck)(x:Exit×an):Prop:=match y with| .next s'=>x.1= .normal∧eH o x.2=some (rep s')| .out v=>x.1≠ .normal∧Rel v x
def wY(C:aU)(f:FuncId)(c:Code):Option (Bool×List Nat):=match nO c with|some i=>some (C.shr f i,C.live f i)|none=>some (false,[])
theorem UM{step:σ→Option (cx σ ck)}(Rel:ck→Exit×an→Prop){e9:σ}{v:ck}(hL:Loop step e9=some v)(h0:eH (wY C f c) S=some (rep e9))
  (body:∀s y,step s=some y→W C f call c (rep s) (wA (wY C f c) rep Rel y)):∃x,c6 C f call lz (.loop c) S=some x∧Rel v x:=by
 obtain⟨m,hm⟩:=Lj hL
 have key:∀(b:Bool)(slots:List Nat),wY C f c=some (b,slots)→(match nO c with|some i=>C.live f i|none=>[])=slots→(match nO c with|some i=>C.shr f i|none=>false)=b→∃x,c6 C f call lz (.loop c) S=some x∧Rel v x:=by
  intro b slots hk hs hb
  rw[hk]at h0 body
  cases b with
  |true=>
   have key:∀m s,LoopN step m s=some v→∃x,lz an (fun S'=>c6 C f call lz c S') (fun S'=>norm S' slots) (rep s)=some x∧Rel v x:=by
    intro m
    induction m with
    |zero=>intro s h;simp[LoopN]at h
    |succ m ih=>
     intro s h
     simp only[LoopN,Option.bind_eq_some_iff]at h
     obtain⟨y,h1,h2⟩:=h
     obtain⟨⟨e,S'⟩,h3,h4⟩:=body s y h1
     rw[UN]
     simp only[h3,Option.bind_some]
     cases y with
     |next s'=>
      obtain⟨rfl,h5⟩:=h4
      have h5:norm S' slots=some (rep s'):=h5
      simp only[h5,Option.bind_some]
      exact ih s' h2
     |out o'=>
      obtain⟨h5,h6⟩:=h4
      obtain rfl:o'=v:=by simpa using h2
      cases e with
      |normal=>exact absurd rfl h5
      |_=>exact⟨_,rfl,h6⟩
   obtain⟨x,h3,h4⟩:=key m e9 hm
   refine⟨x, ?_,h4⟩
   subst hs
   simp only[c6]
   refine(if_pos hb).trans ?_
   exact(congrArg (Option.bind · _) (show norm S _=some (rep e9)from h0)).trans h3
  |false=>
   have h0:(jU S slots).map (aG S.n slots)=some (rep e9):=h0
   obtain⟨anJ,afm,afn⟩:=Option.map_eq_some_iff.1 h0
   have hn:∀s,(∃rO,aG S.n slots rO=rep s)→(rep s).n=S.n:=fun s⟨rO,h⟩=>by rw[←h,Co]
   have key:∀m s rO,aG S.n slots rO=rep s→LoopN step m s=some v→∃x,lz (List aa) (fun cr=>c6 C f call lz c (aG S.n slots cr)) (fun S'=>jU S' slots) rO=some x∧Rel v x:=by
    intro m
    induction m with
    |zero=>intro s rO _ h;simp[LoopN]at h
    |succ m ih=>
     intro s rO T4 h
     simp only[LoopN,Option.bind_eq_some_iff]at h
     obtain⟨y,h1,h2⟩:=h
     obtain⟨⟨e,S'⟩,h3,h4⟩:=body s y h1
     rw[UN]
     simp only[T4,h3,Option.bind_some]
     cases y with
     |next s'=>
      obtain⟨rfl,h5⟩:=h4
      have h5:(jU S' slots).map (aG S'.n slots)=some (rep s'):=h5
      obtain⟨anI,MD,JE⟩:=Option.map_eq_some_iff.1 h5
      have vr:S'.n=S.n:=by rw[Jb Cm _ _ _ h3];exact hn s ⟨rO,T4⟩
      rw[vr]at JE
      simp only[MD,Option.bind_some]
      exact ih s' anI JE h2
     |out o'=>
      obtain⟨h5,h6⟩:=h4
      obtain rfl:o'=v:=by simpa using h2
      cases e with
      |normal=>exact absurd rfl h5
      |_=>exact⟨_,rfl,h6⟩
   obtain⟨x,h3,h4⟩:=key m e9 anJ afn hm
   refine⟨x, ?_,h4⟩
   subst hs
   simp only[c6]
   refine(if_neg fun e=>Bool.noConfusion (hb.symm.trans e)).trans ?_
   exact(congrArg (Option.bind · _) afm).trans h3
 unfold wY at key
 split at key
 ·exact key _ _ rfl rfl rfl
 ·exact key _ _ rfl rfl rfl
def IE(C:aU)(f:FuncId)(k:Nat)(ga:ck→an)(v:ck)(x:Exit×an):Prop:=x.1= .exit k∧eH (C.qS f k) x.2=some (ga v)
def Eo(C:aU)(f:FuncId)(k:Nat)(ga:ck→an)(R:ρ'→Exit×an→Prop):b5 ck ρ'→Exit×an→Prop| .cF v,x=>IE C f k ga v x| .ret r,x=>R r x
theorem cN{step:σ→Option (cx σ ck)}{e9:σ}{rU:ck→Option ρ}(rep:σ→an)(ga:ck→an)(hF:(Loop step e9).bind rU=some r)(h0:eH (wY C f c) S=some (rep e9))(body:∀s y,step s=some y→W C f call c (rep s) (wA (wY C f c) rep (IE C f k ga) y))(post:∀v,rU v=some r→Q (.normal,ga v)):W C f call (.block k (.loop c)) S Q:=by obtain⟨v,h1,h2⟩:=IV hF;obtain⟨⟨e,S'⟩,h3,rfl,h5⟩:=UM (IE C f k ga) h1 h0 body;exact cu ⟨_,h3,V4 h5 (post v h2)⟩
theorem gU{step:σ→Option (cx σ (b5 ck ρ'))}{e9:σ}{kb:ck→Option ρ}{ry:ρ'→Option ρ}(rep:σ→an)(ga:ck→an)(R:ρ'→Exit×an→Prop)(hF:(Loop step e9).bind (b5.go kb ry)=some r)(h0:eH (wY C f c) S=some (rep e9))(body:∀s y,step s=some y→W C f call c (rep s) (wA (wY C f c) rep (Eo C f k ga R) y))(post:∀v,kb v=some r→Q (.normal,ga v))(Jj:∀v,ry v=some r→∀x,R v x→uX C f k Q x):W C f call (.block k (.loop c)) S Q:=by obtain⟨v,h1,h2⟩:=IV hF;obtain⟨x,h3,h4⟩:=UM (Eo C f k ga R) h1 h0 body;cases v with|cF v=>(obtain⟨e,S'⟩:=x;obtain⟨rfl,h5⟩:=h4;exact cu ⟨_,h3,V4 h5 (post v h2)⟩)|ret v=>exact cu ⟨_,h3,Jj v h2 _ h4⟩
variable{Rel:ck→Exit×an→Prop}{ga:ck→an}{R:ρ'→Exit×an→Prop}
theorem ln{s':σ}{y:cx σ ck}(hy:some (cx.next s')=some y)(hc:eH o S=some (rep s')):wA o rep Rel y (.normal,S):=by cases hy;exact⟨rfl,hc⟩
theorem lx{v:ck}{y:cx σ ck}(hy:some (cx.out v)=some y)(hc:eH (C.qS f k) S=some (ga v)):wA o rep (IE C f k ga) y (.exit k,S):=by cases hy;exact⟨by simp,rfl,hc⟩
theorem gV{v:ck}{y:cx σ (b5 ck ρ')}(hy:some (cx.out (b5.cF v))=some y)(hc:eH (C.qS f k) S=some (ga v)):wA o rep (Eo C f k ga R) y (.exit k,S):=by cases hy;exact⟨by simp,rfl,hc⟩
theorem lr{v:ρ'}{y:cx σ (b5 ck ρ')}(hy:some (cx.out (b5.ret v))=some y)(h:R v (.ret,S)):wA o rep (Eo C f k ga R) y (.ret,S):=by cases hy;exact⟨by simp,h⟩
theorem lrr{v:ρ'}{y:cx σ (b5 ck ρ')}{x:Exit×an}(hy:some (cx.out (b5.ret v))=some y)(hx:x.1≠ .normal)(h:R v x):wA o rep (Eo C f k ga R) y x:=by cases hy;exact⟨hx,h⟩
end
theorem inj{α:Type}{a b:α}(h:some a=some b):a=b:=Option.some.inj h
end Go.Ab
