import Derived.Test.YtkmdadjmdgonbaaGreatDoorAbV7
open Bool renaming true->bv,false->ci
open Option renaming some->ac,none->am
open Bool renaming and_eq_true->Ha,false_eq_true->Hc
open List renaming filter->Do,filter_cons_of_neg->Hd,filter_cons_of_pos->Hk
open Nat renaming ble->GE,le_of_ble_eq_true->GT
open Option renaming bind_some->AC,map_some->A0
open Option.some renaming injEq->Hb
set_option linter.all false
namespace Go.Ab
open Go
/-! ### Maps as lists of pairs -/
section
variable{K V:Type}
end
class am8{K:Type}(vX:K->Value)(kind:outParam TypeDesc)(eq:outParam (K->K->Bool)):Prop where same:∀a b,Instr.sameNow kind (vX a) (vX b)=ac (eq a b)sc:∀a,gX (vX a)=bv
section
variable{K V:Type}{vX:K->Value}{ev:V->Value}{kind:TypeDesc}{eq:K->K->Bool}
end
class ana(C:aH)(T:TypeId)(kind:outParam TypeDesc)(z:outParam Value):Prop where mt:rN C T=ac (kind,z)
section
variable{C:aH}{f:FuncId}{call:FuncId->List U->Option (U×List U)}{S:ai}{g:Bool}
variable{d:Nat}{ty:TypeId}{pos:String}{bl:Array Edge}{bS:Option (Nat×Bool)}{x y z:Operand}{T:TypeId}
variable{K V:Type}{vX:K->Value}{ev:V->Value}{kind:TypeDesc}{eq:K->K->Bool}{dL:V}{l:List (K×V)}{k:K}{v:V}{id:Id}
end
open Go
inductive Pa(σ b9:Type)where|go(s:σ)|ret(t:b9)|ex(t:b9)
def Pa.on{σ b9 ρ:Type}(agq:σ->Option ρ)(BA agm:b9->Option ρ):Pa σ b9->Option ρ| .go s=>agq s| .ret s=>BA s| .ex s=>agm s
section
variable{C:aH}{f:FuncId}{call:gB}{S:ai}{Q:Exit×ai->Prop}{assign body:Code}{α σ b9 ρ:Type}{r:ρ}{rep:σ->ai}{lS:b9->ai}{enc:α->List U}{aoG:Operand}{ps:Array Tmp}{j:Nat}
end
section
variable{C:aH}{f:FuncId}{call:gB}{c:Code}{Q:Exit×ai->Prop}{n:Nat}{t t2:Nat->U}{h:Id->Option (Option Rows)}{l:List Nat}{vs:List U}{zs:List (Nat×U)}
end
open Go
section
variable{C:aH}{f:FuncId}{call:gB}{S:ai}{g:Bool}{d:Nat}{ty:TypeId}{pos:String}{bl:Array Edge}{bS:Option (Nat×Bool)}
end
open Go
section
variable{n:Nat}{t:Nat->U}{h L:Id->Option (Option Rows)}
/-! ### Opened, frozen -/
theorem an{p s row off:Nat}{id:Id}{r r':List U}{x:Id×Option Rows}{wr:List (Id×Option Rows)}(hs:t s= .mp id row off:=by exact rfl)(hid:h id=ac (ac [r]):=by exact rfl)(hu:b5 [p,s] 0 r=(r',x::wr):=by exact z7)(L1:Nat.blt s n=true:=by exact rfl)(hf:fresh h (x::wr)=true:=by exact rfl):qu p ⟨n,t,h⟩ s=ac ⟨n,t,bD h ((id,ac [r'])::x::wr)⟩:=aiL hs hid hu L1 hf
theorem aq{p:Nat}{K:ai->Prop}{S S':ai}{lo tc:List Nat}(he:qu p S 0=ac S')(k:K S')(hl:lo=[0]:=by exact rfl)(hz:tc=[]:=by exact rfl):mz p lo tc K S:=tn 0 [] he (oa (jW k hz)) hl
theorem T7{p s row off:Nat}{id:Id}{r r':List U}(hs:t s= .mp id row off:=by exact rfl)(hid:h id=ac (ac [r]):=by exact rfl)(hu:b5 [p,s] 0 r=(r',[]):=by exact z7):qu p ⟨n,t,h⟩ s=ac ⟨n,t,h⟩:=by unfold qu;simp only[hs,hid,hu,List.isEmpty_nil,if_true]
def af9:U->Bool| .rs _ _ _| .cg| .mr _=>bv|_=>ci
theorem DI{s:Nat}{v v':U}{ids:List Id}{wr:List (Id×Option Rows)}(hl:af9 (t s)=true:=by exact rfl)(hp:pk h 9 (t s)=ac (v,ids):=by exact oO)(hf:ff v=v':=by exact KJ)(hn:eB ids=true:=by exact rfl)(hw:(ids.map λi=>(i,am))=wr:=by exact spine):oE ⟨n,t,h⟩ s=ac ⟨n,av t s v',bD h wr⟩:=by have e:o8 ⟨n,t,h⟩ s=ac ⟨n,av t s v',bD h wr⟩:=by{subst hf hw;simp only[o8,hp,hn,if_true]};rw[<-e];cases hts:t s<;>rw[hts]at hl<;>first|(unfold oE;simp only[hts];done)|cases hl
theorem adI{s:Nat}(hl:t s= .cg:=by exact rfl):oE ⟨n,t,h⟩ s=ac ⟨n,av t s (.sl []),h⟩:=by simp only[oE,hl,o8,pk,eB,if_true];rfl
/-! ### Names of what arguments lead to -/
def SZ:U->Bool| .fn _ as cs=> !(as.isEmpty&&cs.isEmpty)| .rs _ _ _=>bv| .mp _ _ _=>bv| .mr _=>bv| .agg _=>bv|_=>ci
variable{m j:Nat}{b:Bool}{p i:Id}{acc acc' oZ y l:List (Id×Id)}{a:U}{as cs fc:List U}
theorem Qs(hx:fc=[])(e:acc=y):er L m b p j acc fc=y:=by subst hx;cases m<;>exact e
theorem aa2(hx:fc=a::as)(hs:SZ a=ci)(k:er L m b p (j+1) acc as=y):er L (m+1) b p j acc fc=y:=by subst hx;cases a with|fn f xs cs=>(simp only[SZ,Bool.not_eq_false',Ha,List.isEmpty_iff]at hs;obtain⟨rfl,rfl⟩:=hs;have e:er L m bv (j::p) 0 acc ([]++[])=acc:=by{cases m<;>rfl};simp only[er,e];exact k)|_=>first|exact k|cases hs
theorem aa0{o q:Nat}(hx:fc= .rs i o q::as)(hn:(!b||(gQ acc i).isSome)=ci)(hl:acc++[(i,j::p)]=acc')(k:er L m b p (j+1) acc' as=y):er L (m+1) b p j acc fc=y:=by subst hx hl;simp only[er,hn];exact k
theorem aa1{o q:Nat}(hx:fc= .rs i o q::as)(hn:(!b||(gQ acc i).isSome)=bv)(k:er L m b p (j+1) acc as=y):er L (m+1) b p j acc fc=y:=by subst hx;simp only[er,hn];exact k
theorem aaY{o q:Nat}(hx:fc= .mp i o q::as)(hn:(gQ acc i).isSome=ci)(hh:L i=ac (ac [cs]))(hl:acc++[(i,j::p)]=acc')(h1:er L m ci (j::p) 0 acc' cs=oZ)(k:er L m b p (j+1) oZ as=y):er L (m+1) b p j acc fc=y:=by subst hx hl h1;simp only[er,hn,hh];exact k
theorem aaZ{o q:Nat}(hx:fc= .mp i o q::as)(hn:(gQ acc i).isSome=bv)(k:er L m b p (j+1) acc as=y):er L (m+1) b p j acc fc=y:=by subst hx;simp only[er,hn];exact k
theorem aaW(hx:fc= .agg cs::as)(h1:er L m b (j::p) 0 acc cs=oZ)(k:er L m b p (j+1) oZ as=y):er L (m+1) b p j acc fc=y:=by subst hx h1;simp only[er];exact k
theorem aaX{f:Fn}{xs:List U}(hx:fc= .fn f xs cs::as)(h1:er L m bv (j::p) 0 acc (xs++cs)=oZ)(k:er L m b p (j+1) oZ as=y):er L (m+1) b p j acc fc=y:=by subst hx h1;simp only[er];exact k
theorem J3(k:er L m b p j acc fc=y:=by(repeat'(first|((with_reducible apply Qs);(with_reducible exact rfl);exact rfl)|((with_reducible apply aa2);exact rfl;first|exact rfl|exact apu|exact apv)|((with_reducible apply aa0);exact rfl;exact rfl;exact spine)|((with_reducible apply aa1);exact rfl;exact rfl)|((with_reducible apply anO);exact rfl;exact rfl;exact spine)|((with_reducible apply anP);exact rfl;exact rfl)|((with_reducible apply aaZ);exact rfl;exact rfl)|((with_reducible apply aaY);exact rfl;exact rfl;exact rfl;exact spine)|((with_reducible apply aaW);exact rfl)|((with_reducible apply aaX);exact rfl)|(apply Qs;exact rfl;exact rfl)));first|done|fail):er L m b p j acc fc=y:=k
/-! ### The objects that go -/
variable{o k:Id}{r l':List (Id×Id)}{rows x1 bQ:Rows}{i1 i2 gone ids:List Id}{obs outs:List U}{keep:Id->Bool}{back:List (Id×Option Rows)}
theorem abH(hf:e6 rows=bv):oz L keep rows=ac (rows,[]):=by simp only[oz,hf,if_true]
theorem abI(hf:e6 rows=ci)(hc:fQ (mE L keep) rows=ac (bQ,ids)):oz L keep rows=ac (bQ,ids):=by simp[oz,hf,hc]
theorem QG{y:Option (Rows×List Id)}(k:oz L keep rows=y:=by(repeat'(first|(apply abH;first|exact wh _|exact rfl|exact Kx)|(apply anV;exact rfl;exact rfl;(first|(with_reducible assumption)|assumption);exact inferInstance;rotate_left;exact rfl)|(apply abI;exact rfl)|exact Rs|(apply Rt;exact rfl)|exact abG|(apply QF;exact rfl)|exact JX|exact JY|exact Qm|exact JZ|(apply Qo;exact rfl;exact rfl;exact oO)|(apply J0;exact rfl;exact rfl;exact oO)|(apply Qn;exact rfl;exact rfl;exact oO)|(apply Dk;first|exact rfl|exact Rm|exact Rp|exact Rn)|exact Ql|exact DF|(apply DE;exact rfl)));first|done|fail):oz L keep rows=y:=k
theorem ah1:iU L l []=ac ([],[]):=rfl
theorem ah0(h:L o=ac (ac rows))(hc:oz L (uX l) rows=ac (x1,i1))(hr:nH l x1=ac bQ)(hy:iU L l r=ac (obs,gone)):iU L l ((o,k)::r)=ac (.aE k bQ::obs,i1++gone):=by simp[iU,h,hc,hr,hy]
theorem Nc{y:Option (List U×List Id)}(k:iU L l r=y:=by(repeat'(first|exact ah1|(apply ah0;exact rfl;exact QG;(first|exact NI|exact NJ|exact NK))));first|done|fail):iU L l r=y:=k
theorem ZZ:je l' [] []=ac []:=rfl
theorem ZX(hr:nH l' rows=ac bQ)(hy:je l' r outs=ac back):je l' ((o,k)::r) (.aE k rows::outs)=ac ((o,ac bQ)::back):=by simp[je,hr,hy]
theorem ZY(hy:je l' r outs=ac back):je l' ((o,k)::r) (.aS::outs)=ac ((o,am)::back):=by simp[je,hy]
theorem aa5:iG L []=[]:=rfl
theorem aa4{x:Id×Option Rows}{bk:List (Id×Option Rows)}(hs:r3 L x=bv)(k:iG L bk=back):iG L (x::bk)=back:=by unfold iG at*;rw[Hd (by simp[hs])];exact k
theorem aa3{x:Id×Option Rows}{bk:List (Id×Option Rows)}(hs:r3 L x=ci)(k:iG L bk=back):iG L (x::bk)=x::back:=by unfold iG at*;rw[Hk (by simp[hs]),k]
theorem alx{α:Type}{c:α->List U}[hc:oT c]{q:List α}:r3 L (o,ac (q.map c))=false:=by cases h:r3 L (o,ac (q.map c))with|false=>(rfl)|true=>exfalso;unfold r3 at h;split at h;·{rename_i h1 h2;simp only[Hb]at h2;have:e6 (q.map c)=true:=wh q;rw[h2]at this;simp[e6,dw,flat]at this};·cases h
theorem J6{bk:List (Id×Option Rows)}{y:List (Id×Option Rows)}(k:iG L bk=y:=by(repeat'(first|exact aa5|(apply aa4;exact rfl)|(apply aa3;first|exact alx|exact rfl)));first|done|fail):iG L bk=y:=k
theorem JR{y:Option (List (Id×Option Rows))}(k:je l' r outs=y:=by(repeat'(first|exact ZZ|(apply ZX;(first|exact NI|exact NJ|exact NK))|apply ZY));first|done|fail):je l' r outs=y:=k
/-! Values under other names -/
theorem akx(hf:flat a=bv):fz l a=a:=by cases a with|agg cs=>(simp only[flat]at hf;simp[fz,Fj hf])|aC cs=>(simp only[flat]at hf;simp[fz,Fj hf])|fn f as cs=>(simp only[flat,Ha]at hf;simp[fz,Fj hf.1,Fj hf.2])|rs _ _ _=>(simp[flat]at hf)|mp _ _ _=>(simp[flat]at hf)|mr _=>(simp[flat]at hf)|dO _ _=>(simp[flat]at hf)|cg=>(simp[flat]at hf)|_=>simp only[fz,xg,B7];rw[if_pos hf]
theorem acN(hf:dw cs=bv):flat (.agg cs)=true:=hf
theorem acW(hf:dw cs=bv):flat (.aC cs)=true:=hf
theorem acP{α:Type}{c:α->List U}{x:α}[hc:oT c]:dw (c x)=true:=hc.fl x
theorem KB{a:U}(k:flat a=true:=by(repeat'(first|exact rfl|exact acO|exact acS|exact Ro|(with_reducible apply acN)|(with_reducible apply acW)|exact acP|exact acR|(apply Rl;exact rfl)));first|done|fail):flat a=true:=k
theorem NU{a':U}(k:fz l a=a':=by first|(refine akx ?_;exact KB)|exact rfl):fz l a=a':=k
theorem aki(hx:fc=[]:=by exact rfl):fc.map (fz l)=[]:=by subst hx;rfl
theorem akh{a':U}{bs:List U}(hx:fc=a::as)(h:fz l a=a')(k:as.map (fz l)=bs):fc.map (fz l)=a'::bs:=by subst hx h k;rfl
theorem NT{bs:List U}(k:fc.map (fz l)=bs:=by(repeat'(first|exact aki|(apply akh;exact rfl;exact NU)));first|done|fail):fc.map (fz l)=bs:=k
end
section
variable{C:aH}{f:FuncId}{call:gB}{S:ai}{g:Bool}{d:Nat}{ty:TypeId}{pos:String}{bl:Array Edge}{bS:Option (Nat×Bool)}
variable{cU:Operand}{ts:Array TypeId}{fk:FuncId}{as bs args tF obs outs zi aqB:List U}{l:List (Id×Id)}{gone:List Id}{r v v':U}{back Av vC wr:List (Id×Option Rows)}{xs:Array Operand}
theorem Q8{d':Option Tmp}(hfo:un g (S.get C cU)= .fn (.func fk) as bs)(ew:C.jg fk=bv):bU C f call S g ⟨d', .call ⟨.value cU,xs,ts⟩,ty,pos,bl,bS⟩=p6 C f call S ⟨d', .call ⟨.value cU,xs,ts⟩,ty,pos,bl,bS⟩ fk (as++(xs.toList.map λx=>un g (S.get C x))++bs):=by show(match mb C (un g (S.get C cU))with|some x=>p6 C f call S _ x.1 (x.2.1++(xs.toList.map λx=>un g (S.get C x))++x.2.2)|none=>_)=_;have:mb C (un g (S.get C cU))=ac (fk,as,bs):=by{rw[hfo];simp[mb,ew]};rw[this]
theorem Qk(hc:call fk (.aC obs::tF)=ac (r,outs))(hfo:un g (S.get C cU)= .fn (.func fk) as bs)(ew:C.jg fk=bv)(ha:as++(xs.toList.map λx=>un g (S.get C x))++bs=args)(hl:er S.h 60 bv [iS] 0 [] args=l)(ho:iU S.h l l=ac (obs,gone))(uP:args.map (fz l)=tF)(kU:(eB (l.map (·.1))&&eB (l.map (·.2))&&(l.all λx=>iR x.2)&&eB gone&&AJ gone (l.map (·.1)))=bv)(hb:je (l.map λx=>(x.2,x.1)) l outs=ac back)(hp:Bm r=ci)(hv:fz (l.map λx=>(x.2,x.1)) (if gW C f (ac d)then(if flat r then ff r else .aS)else r)=v)(hi:imp [d] v=(v',vC))(hf:fresh S.h vC=bv)(hw:vC++(iG S.h back++gone.map λi=>(i,am))=wr):bU C f call S g ⟨ac d, .call ⟨.value cU,xs,ts⟩,ty,pos,bl,bS⟩=ac ⟨[(d,v')],l.map (·.1),wr⟩:=by rw[Q8 hfo ew,ha];subst hw;have e:oF call S.h fk args=ac ⟨r,l,back,gone⟩:=by{unfold oF AW;rw[hl,ho];simp only[kU,if_true,uP,hc,hb,A0]};unfold p6;rw[e];simp only[AC,hp,Hc,if_false,jG,hv,hi,hf,if_true];rfl
theorem dV(hc:call fk (.aC obs::tF)=ac (r,outs)){rd:List Id}(hfo:un g (S.get C cU)= .fn (.func fk) as bs:=by exact rfl)(ew:C.jg fk=true:=by exact rfl)(ha:as++(xs.toList.map λx=>un g (S.get C x))++bs=args:=by exact spine)(hl:er S.h 60 bv [iS] 0 [] args=l:=by exact J3)(ho:iU S.h l l=ac (zi,gone):=by exact Nc)(rG:zi=obs:=by exact rfl)(uP:args.map (fz l)=tF:=by exact NT)(kU:(eB (l.map (·.1))&&eB (l.map (·.2))&&(l.all λx=>iR x.2)&&eB gone&&AJ gone (l.map (·.1)))=true:=by exact rfl)(hb:je (l.map λx=>(x.2,x.1)) l outs=ac back:=by exact JR)(hp:Bm r=false:=by exact rfl)(hz:(C.gu f).contains d=false:=by exact rfl)(hv:fz (l.map λx=>(x.2,x.1)) r=v:=by exact NU)(hi:imp [d] v=(v',vC):=by exact Em)(hf:fresh S.h vC=true:=by exact rfl)(jI:iG S.h back=Av:=by exact J6)(hw:vC++(Av++gone.map λi=>(i,am))=wr:=by exact spine)(hrd:l.map (·.1)=rd:=by exact spine):bU C f call S g ⟨ac d, .call ⟨.value cU,xs,ts⟩,ty,pos,bl,bS⟩=ac ⟨[(d,v')],rd,wr⟩:=by subst hrd rG;exact Qk hc hfo ew ha hl ho uP kU hb hp (by simp only[gW,hz,Hc,if_false];exact hv) hi hf (by rw[jI];exact hw)
theorem aA(hc:call fk (.aC obs::tF)=ac (r,outs)){rd:List Id}{v0:U}(hfo:un g (S.get C cU)= .fn (.func fk) as bs:=by exact rfl)(ew:C.jg fk=true:=by exact rfl)(ha:as++(xs.toList.map λx=>un g (S.get C x))++bs=args:=by exact spine)(hl:er S.h 60 bv [iS] 0 [] args=l:=by exact J3)(ho:iU S.h l l=ac (zi,gone):=by exact Nc)(rG:zi=obs:=by exact rfl)(uP:args.map (fz l)=tF:=by exact NT)(kU:(eB (l.map (·.1))&&eB (l.map (·.2))&&(l.all λx=>iR x.2)&&eB gone&&AJ gone (l.map (·.1)))=true:=by exact rfl)(hb:je (l.map λx=>(x.2,x.1)) l outs=ac back:=by exact JR)(hp:Bm r=false:=by exact rfl)(hz:(C.gu f).contains d=true:=by exact rfl)(hfl:flat r=true:=by exact KB)(hfz:ff r=v0:=by exact KJ)(hv:fz (l.map λx=>(x.2,x.1)) v0=v:=by exact NU)(hi:imp [d] v=(v',vC):=by exact Em)(hf:fresh S.h vC=true:=by exact rfl)(jI:iG S.h back=Av:=by exact J6)(hw:vC++(Av++gone.map λi=>(i,am))=wr:=by exact spine)(hrd:l.map (·.1)=rd:=by exact spine):bU C f call S g ⟨ac d, .call ⟨.value cU,xs,ts⟩,ty,pos,bl,bS⟩=ac ⟨[(d,v')],rd,wr⟩:=by subst hrd rG;exact Qk hc hfo ew ha hl ho uP kU hb hp (by simp only[gW,hz,if_true,hfl,hfz];exact hv) hi hf (by rw[jI];exact hw)
theorem adU{v:Value}(hc:call fk (.aC obs::tF)=ac (.aF v,outs))(ha:as++(xs.toList.map λx=>un g (S.get C x))++bs=args)(hl:er S.h 60 bv [iS] 0 [] args=l)(ho:iU S.h l l=ac (obs,gone))(uP:args.map (fz l)=tF)(kU:(eB (l.map (·.1))&&eB (l.map (·.2))&&(l.all λx=>iR x.2)&&eB gone&&AJ gone (l.map (·.1)))=bv)(hb:je (l.map λx=>(x.2,x.1)) l outs=ac back):oF call S.h fk (as++(xs.toList.map λx=>un g (S.get C x))++bs)=ac ⟨.aF v,l,back,gone⟩:=by rw[ha];unfold oF AW;rw[hl,ho];simp only[kU,if_true,uP,hc,hb,A0]
theorem acE{d':Option Tmp}(hfo:un g (S.get C cU)= .fn (.func fk) as bs)(ew:C.jg fk=bv){v:Value}(nw:oF call S.h fk (as++(xs.toList.map λx=>un g (S.get C x))++bs)=ac ⟨.aF v,l,back,gone⟩):bU C f call S g ⟨d', .call ⟨.value cU,xs,ts⟩,ty,pos,bl,bS⟩=none:=by rw[Q8 hfo ew];unfold p6;rw[nw];rfl
theorem cA{Z:List eD->oX->Prop}{K:List eD->ai->Prop}{m:Option (List Nat)}{ops:Array Oper}{i:Nat}{lo:List Oper}{ks:List eD}{v:Value}{d':Option Tmp}(hc:call fk (.aC obs::tF)=ac (.aF v,outs)){rd:List Id}(k:Z ks ⟨i,lo,S,v,⟨[],rd,wr⟩⟩)(hfo:un bv (S.get C cU)= .fn (.func fk) as bs:=by exact rfl)(ew:C.jg fk=true:=by exact rfl)(ha:as++(xs.toList.map λx=>un bv (S.get C x))++bs=args:=by exact spine)(hl:er S.h 60 bv [iS] 0 [] args=l:=by exact J3)(ho:iU S.h l l=ac (zi,gone):=by exact Nc)(rG:zi=obs:=by exact rfl)(uP:args.map (fz l)=tF:=by exact NT)(kU:(eB (l.map (·.1))&&eB (l.map (·.2))&&(l.all λx=>iR x.2)&&eB gone&&AJ gone (l.map (·.1)))=true:=by exact rfl)(hb:je (l.map λx=>(x.2,x.1)) l outs=ac back:=by exact JR)(jI:iG S.h back=Av:=by exact J6)(hw:Av++gone.map (λi=>(i,am))=wr:=by exact spine)(hrd:l.map (·.1)=rd:=by exact spine)(hm:m=none:=by exact rfl):eG C f call ops m i (⟨d', .call ⟨.value cU,xs,ts⟩,ty,pos,bl,am⟩::lo) ks S K Z:=by subst hrd rG jI hw;have nw:=adU (g:=bv) hc ha hl ho uP kU hb;refine UA (acE hfo ew nw) ?_ k hm;have aeQ:mb C (un bv (S.get C cU))=ac (fk,as,bs):=by{rw[hfo];simp[mb,ew]};simp only[oL,o9,aeQ,Di,nw,AC]
theorem Nv{Z:List eD->oX->Prop}{K:List eD->ai->Prop}{m:Option (List Nat)}{ops:Array Oper}{i:Nat}{lo:List Oper}{ks:List eD}{x:Operand}{tt:TypeId}{v:Value}{d':Option Tmp}(k:Z ks ⟨i,lo,S, .iface tt v,⟨[],[],[]⟩⟩)(hx:un bv (S.get C x)= .val (.iface tt v):=by exact rfl)(hm:m=none:=by exact rfl):eG C f call ops m i (⟨d', .panic x,ty,pos,bl,am⟩::lo) ks S K Z:=by refine UA rfl ?_ k hm;simp only[oL,o9,hx]
end
/-! ### Functions -/
def xJ:Nat->List U->List (Nat×U)|_,[]=>[]|i,p::ps=>(i,p)::xJ (i+1) ps
theorem Oh:∀(ps:List U)(i t:Nat),dM (λ_=> .aS) (xJ i ps) t=if t<i then .aS else ps.getD (t-i) .aS|[],i,t=>by{simp[xJ,dM]}|p::ps,i,t=>by simp only[xJ,dM,av];by_cases e:t=i;·{subst e;simp};·rw[if_neg e,Oh ps (i+1) t];by_cases h1:t<i;·{rw[if_pos h1,if_pos (by omega)]};·rw[if_neg h1,if_neg (by omega),show t-i=(t-(i+1))+1 by omega];rfl
def nQ(C:aH)(f:FuncId)(rv:List ResultVar)(ks:List Id)(r:U)(outs:List U)(x:Exit×ai):Prop:=((x.1= .ret∨x.1= .normal)∧∃S al vs i1 i2,mL (C.sC f) x.2=S∧(ks.filter λk=>kX (S.h k))=al∧mT C S (nV S.h λi=>al.contains i) rv=ac (vs,i1)∧k5 S.h (λi=>al.contains i) ks=ac (outs,i2)∧eB (al++(i1++i2))=bv∧wX vs=r)∨∃v,x.1=fH v∧r= .aF v∧AQ ks (mL (C.AK f) x.2)=ac outs
section
variable{C:aH}{f:FuncId}{S:ai}{rv:List ResultVar}{ks al:List Id}{vs outs outs' cs cs':List U}{ids is i1 i2:List Id}{r v v' x:U}{p:U->Option (U×List Id)}{L:Id->Option (Option Rows)}{keep:Id->Bool}{rows bQ:Rows}{k:Id}{T:TypeId}
theorem akn:mT C S p []=ac ([],[]):=rfl
theorem akp{t:Nat}(h:p (un bv (S.t t))=ac (v,ids))(hr:mT C S p rv=ac (vs,is)):mT C S p (.tmp t::rv)=ac (v::vs,ids++is):=by show(xj C S p (.tmp t)).bind _=_;simp only[xj,h,AC,hr,A0]
theorem ako{a m:Nat}{id:Id}{bb:Bool}{r:List U}[ha:ek C T bb m](hx:un bv (S.t a)= .mp id 0 0)(hh:S.h id=ac (ac [r]))(hl:GE m r.length=bv)(hv:jZ bb (r.take m)=ac v)(h:p v=ac (v',ids))(hr:mT C S p rv=ac (vs,is)):mT C S p (.cell a T::rv)=ac (v'::vs,id::ids++is):=by show(xj C S p (.cell a T)).bind _=_;have hl':0+m<=r.length:=by{have:=GT hl;omega};simp only[xj,ha.lZ,ha.sz,hx,hh,List.getElem?_cons_zero,if_pos hl',List.drop_zero,hv,AC,h,hr,A0]
theorem Qw:∀{cs:List U},dw cs=bv->fe (iH L keep) cs=ac (cs,[])|[],_=>rfl|c::cs,h=>by simp only[dw,Ha]at h;simp only[fe,Dk h.1,AC,Qw h.2,A0];rfl
theorem abO(hf:flat x=bv):nV L keep x=ac (x,[]):=by cases x with|agg cs=>(simp only[flat]at hf;simp only[nV,Qw hf,A0])|_=>exact Dk (h:=L) (keep:=keep) hf
theorem abM(hx:x= .agg cs:=by exact rfl)(h:fe (iH L keep) cs=ac (cs',ids)):nV L keep x=ac (.agg cs',ids):=by subst hx;simp only[nV,h,A0]
def isAgg:U->Bool| .agg _=>bv|_=>ci
theorem abS(hx:isAgg x=ci)(h:iH L keep x=ac (v,ids)):nV L keep x=ac (v,ids):=by cases x<;>first|exact h|cases hx
theorem Kf{y:Option (U×List Id)}(k:nV L keep x=y:=by(repeat'(first|(refine abO ?_;exact KB)|(apply abM;exact rfl)|(apply abS;exact rfl)|exact JX|exact JY|exact Qm|exact JZ|(apply Qo;exact rfl;exact rfl;exact oO)|(apply J0;exact rfl;exact rfl;exact oO)|(apply Qn;exact rfl;exact rfl;exact oO)|(apply Dk;first|exact rfl|exact Rm|exact Rp|exact Rn)|exact Ql|exact DF|(apply DE;exact rfl)));first|done|fail):nV L keep x=y:=k
theorem UW{y:Option (List U×List Id)}(h:mT C S (nV L keep) rv=y:=by repeat'(first|with_reducible exact akn|((with_reducible apply akp);exact Kf)|((with_reducible apply ako);exact rfl;exact rfl;exact rfl;(first|exact HY|exact MH rfl);exact Kf)|((with_reducible apply aqL);exact rfl;exact rfl;(first|exact HY|exact MH rfl);exact Kf))):mT C S (nV L keep) rv=y:=h
theorem ahV:k5 L keep []=ac ([],[]):=rfl
theorem ahT(h:L k=ac (ac rows))(hc:oz L keep rows=ac (bQ,i1))(hy:k5 L keep ks=ac (outs,i2)):k5 L keep (k::ks)=ac (.aE k bQ::outs,i1++i2):=by simp[k5,h,hc,hy]
theorem ahU(h:kX (L k)=ci)(hy:k5 L keep ks=ac (outs,i2)):k5 L keep (k::ks)=ac (.aS::outs,i2):=by unfold k5;split;·{rename_i rows e;rw[e]at h;cases h};·rw[hy];rfl
theorem M8{y:Option (List U×List Id)}(h:k5 L keep ks=y:=by(repeat'(first|exact ahV|(apply ahT;exact rfl;exact QG)|(apply ahU;exact rfl)));first|done|fail):k5 L keep ks=y:=h
theorem acQ{p:Id->Bool}:Do p []=([]:List Id):=rfl
theorem acV{p:Id->Bool}{k:Id}{ks al:List Id}(h:p k=bv)(hy:Do p ks=al):Do p (k::ks)=k::al:=by rw[Hk h,hy]
theorem acX{p:Id->Bool}{k:Id}{ks al:List Id}(h:p k=ci)(hy:Do p ks=al):Do p (k::ks)=al:=by rw[Hd (by simp[h]),hy]
theorem KC{p:Id->Bool}{y:List Id}(h:Do p ks=y:=by(repeat'(first|exact acQ|(apply acV;exact rfl)|(apply acX;exact rfl)));first|done|fail):Do p ks=y:=h
theorem agx{S:ai}{l:List Id}(hl:l=[]:=by exact rfl):mL l S=S:=by subst hl;rfl
theorem agy{n:Nat}{t:Nat->U}{h:Id->Option (Option Rows)}{l l2:List Id}(hl:l=l2:=by exact spine):mL l ⟨n,t,h⟩=⟨n,t,bD h (l2.map λi=>(i,am))⟩:=by subst hl;rfl
theorem Mn{S S':ai}{l:List Id}(k:mL l S=S':=by first|exact agx|exact agy):mL l S=S':=k
theorem cI{ia:ai}(hk:mL (C.sC f) ia=S:=by exact Mn)(ha:(ks.filter λk=>kX (S.h k))=al:=by exact KC)(h:mT C S (nV S.h λi=>al.contains i) rv=ac (vs,i1):=by exact UW)(ho:k5 S.h (λi=>al.contains i) ks=ac (outs',i2):=by exact M8)(rG:outs'=outs:=by exact rfl)(hn:eB (al++(i1++i2))=true:=by exact rfl)(hr:wX vs=r:=by exact rfl):nQ C f rv ks r outs (.ret,ia):=by subst rG;exact .inl ⟨.inl rfl,S,al,vs,i1,i2,hk,ha,h,ho,hn,hr⟩
theorem fh{ia:ai}(hk:mL (C.sC f) ia=S:=by exact Mn)(ha:(ks.filter λk=>kX (S.h k))=al:=by exact KC)(h:mT C S (nV S.h λi=>al.contains i) rv=ac (vs,i1):=by exact UW)(ho:k5 S.h (λi=>al.contains i) ks=ac (outs',i2):=by exact M8)(rG:outs'=outs:=by exact rfl)(hn:eB (al++(i1++i2))=true:=by exact rfl)(hr:wX vs=r:=by exact rfl):nQ C f rv ks r outs (.normal,ia):=by subst rG;exact .inl ⟨.inr rfl,S,al,vs,i1,i2,hk,ha,h,ho,hn,hr⟩
theorem cC{ia:ai}{v:Value}(hk:mL (C.AK f) ia=S:=by exact Mn)(ha:(ks.filter λk=>kX (S.h k))=al:=by exact KC)(ho:k5 S.h (λi=>al.contains i) ks=ac (outs',i2):=by exact M8)(rG:outs'=outs:=by exact rfl)(hn:eB (al++i2)=true:=by exact rfl)(hr:r=U.aF v:=by exact rfl):nQ C f rv ks r outs (fH v,ia):=by subst rG ha hk;refine .inr ⟨v,rfl,hr, ?_⟩;unfold AQ;simp only[ho,hn,if_true]
theorem eo{fn:Func}{c:Code}{obs args:List U}{hl:List (Id×Rows)}{zs:List (Nat×U)}{nn N:Nat}(hf:C.P.funcs[f]? =ac fn)(hn:fn.ntmps=N)(hr:fn.results.toList=rv)(k:mz iS (C.jy f iS) [] (λia=>W C f (den C nn) c ia (nQ C f rv ks r outs)) ⟨N,dM (λ_=> .aS) zs,kD hl⟩)(hb:fn.body=ac c:=by exact rfl)(he:C.ext f=none:=by exact rfl)(ew:C.jg f=true:=by exact rfl)(hl':GE args.length N=true:=by exact rfl)(hN:GE N iS=true:=by exact rfl)(ho:wT obs=ac hl:=by exact rfl)(hz:xJ 0 args=zs:=by exact spine)(hk:hl.map (·.1)=ks:=by exact spine)(hdf:AH C f c=false:=by exact rfl):den C (nn+1) f (.aC obs::args)=ac (r,outs):=by obtain⟨ia,h0,bJ,h1,⟨e,s⟩,h2,h9⟩:=k;simp only[kr,Hb]at h1;subst h1;subst hn hz hk;show sF C (den C nn) lH f _=_;unfold sF;simp only[he,hf,hb,ew,if_true];unfold Dv;simp only[ho];rw[if_pos ⟨GT hl',GT hN⟩,hdf];simp only[Hc,if_false];have e0:zU fn.ntmps args hl=⟨fn.ntmps,dM (λ_=> .aS) (xJ 0 args),kD hl⟩:=by{unfold zU;congr 1;funext t;rw[Oh];simp};rw[e0,h0];simp only[AC,h2];rcases h9 with⟨h3,Ym,al,vs,i1,i2,D3,h4,h5,h6,h7,h8⟩|⟨v,h3,rfl,h4⟩;·{subst hr;have cJ:uB C fn (hl.map (·.1)) (mL (C.sC f) s)=ac (r,outs):=by{simp only at D3;rw[D3];unfold uB;simp only[h4,h5,h6,h7,if_true];rw[<-h8];congr 2;cases vs with|nil=>(rfl)|cons a l=>cases l<;>rfl};rcases h3 with h3|h3;·{simp only at h3;subst h3;exact cJ};·simp only at h3;subst h3;exact cJ};·simp only at h3 h4;subst h3;simp only[fH,qv,AC,h4,A0]
end
open Go
theorem adF{n s:Nat}{t:Nat->U}{h:Id->Option (Option Rows)}{rows:Rows}(hs:t s= .sl rows:=by exact rfl):oE ⟨n,t,h⟩ s=ac ⟨n,t,h⟩:=by unfold oE;simp only[hs]
section
variable{C:aH}{f:FuncId}{call:gB}{S:ai}{g:Bool}{d:Nat}{t ty:TypeId}{pos:String}{bl:Array Edge}{bS:Option (Nat×Bool)}{x:Operand}
def nY(l:List ByteArray):U:= .sl (l.map λs=>[.val (.string s)])
theorem TE{α:Type}{c:α->U}{T:TypeId}{y:Operand}{k:IntKind}{e:TypeId}{m len:Nat}{bb:Bool}{i:Int}{r:α}{q:List α}(hi:idx q i=ac r)[hu:eM C T (.array len e)][hs:ek C e bb m](hx:un g (S.get C x)= .bL (q.map c):=by exact rfl)(hy:un g (S.get C y)= .val (.int k i):=by first|exact rfl|exact cP)(hm:m=1:=by exact rfl)(hl:q.length=len:=by exact rfl):bU C f call S g ⟨ac d, .indexAddr T x y,ty,pos,bl,bS⟩=ac ⟨[(d, .bL (c r::(q.map c).drop (i.toNat+1)))],[],[]⟩:=by show o4 C S _ T (un g (S.get C x)) (e8 (un g (S.get C y)))=_;have hb:=Mf hi;have hn:=qh hi;subst hm hl;have hlt:i.toNat<q.length:=by{omega};have e1:(q.map c).drop (i.toNat*1)=c r::(q.map c).drop (i.toNat+1):=by{have:q[i.toNat]=r:=by{rw[List.getElem?_eq_getElem hlt]at hn;simpa using hn};rw[Nat.mul_one,List.drop_eq_getElem_cons (by simpa using hlt)];simp[this]};simp only[hx,hy,e8,o4,hu.ul,hs.sz];rw[if_pos ⟨hb.1,hb.2,by simp;omega⟩,e1];rfl
end
open Go
inductive au(α β:Type)where|ok(a:α)|aF(v:Value)(b:β)
def au.on{α β γ:Type}(p:Value->β->Option γ)(k:α->Option γ):au α β->Option γ| .ok a=>k a| .aF v b=>p v b
theorem cx{α β γ:Type}{x:Option (au α β)}{p:Value->β->Option γ}{k:α->Option γ}{r:γ}{G:Prop}(hF:x.bind (au.on p k)=ac r)(h1:∀v b,x=ac (.aF v b)->p v b=ac r->G)(h2:∀a,x=ac (.ok a)->k a=ac r->G):G:=by cases x with|none=>(cases hF)|some y=>cases y with|ok a=>(exact h2 a rfl hF)|aF v b=>exact h1 v b rfl hF
theorem akj{S:ai}:(Exit.ret,S).1≠ .normal:=by simp
theorem iX{v:Value}{S:ai}:(fH v,S).1≠ .normal:=by simp[fH]
theorem yt{C:aH}{f:FuncId}{rv:List ResultVar}{ks:List Id}{r:U}{outs:List U}{x:Exit×ai}(hne:x.1≠ .normal)(h:nQ C f rv ks r outs x):x.1= .ret∨∃v,x.1=fH v:=by rcases h with⟨h|h,_⟩|⟨v,h,_⟩;·{exact .inl h};·{exact absurd h hne};·exact .inr ⟨v,h⟩
class Jj(C:aH)(t:TypeId):Prop where MN:(match C.P.underlying t with|some (.interface _)=>ci|some _=>bv|none=>ci)=bv
section
variable{C:aH}{f:FuncId}{call:gB}{S:ai}{g:Bool}{d:Nat}{t ty:TypeId}{pos:String}{bl:Array Edge}{bS:Option (Nat×Bool)}{x:Operand}
theorem acB [hi:Jj C t]{o:Oper}{a:U}{v:Value}(hv:mV a=ac v)(hs:gX (.iface t v)=bv):q4 C o t a=ret o (.val (.iface t v)):=by have h:=hi.MN;unfold q4;split at h;·{cases h};·{rename_i h1 h2;rw[h2];cases he:C.P.underlying t<;>simp_all};·cases h
theorem MZ{cs:List U}{vs:List Value}[hi:Jj C t](hx:un g (S.get C x)= .agg cs:=by first|exact rfl|exact cP)(hv:jB cs=ac vs:=by exact rfl)(hs:vs.all Fo=true:=by exact rfl):bU C f call S g ⟨ac d, .makeInterface t x,ty,pos,bl,bS⟩=ac ⟨[(d, .val (.iface t (.agg ⟨vs⟩)))],[],[]⟩:=by show q4 C _ t (un g (S.get C x))=_;rw[hx,acB (v:= .agg ⟨vs⟩) (by simp only[mV,hv,A0]) hs];rfl
end
open Go
section
variable{C:aH}{f:FuncId}{call:gB}{S:ai}{A b c:Code}{o0 o1:Oper}{d:Nat}{Q:Exit×ai->Prop}
def Aj(C:aH)(d:Nat)(Q:Exit×ai->Prop)(x:Exit×ai):Prop:=∃y,vt C d x=ac y∧Q y
theorem IB(h:Q (.ret,S)):Aj C d Q (.ret,S):=⟨_,rfl,h⟩
theorem IA{v:Value}{k:FuncId}{xs cs:List U}{g:Value->List U->List U->ai->Option ai}{S':ai}(hd:S.t d= .fn (.func k) xs cs)(hg:g v xs cs S=ac S')(h:Q (.ret,S'))(hk:C.pQ k=ac g:=by exact rfl):Aj C d Q (fH v,S):=⟨(.ret,S'),by simp only[fH,vt,qv,AC,hd,hk,hg,A0],h⟩
def CW(C:aH)(f:FuncId)(call:gB)(o0 o1:Oper)(d:Nat)(b:Code)(Q:Exit×ai->Prop)(x:Exit×ai):Prop:=match x.1 with| .normal=>eG C f call #[o0,o1] am 0 [o0] [] x.2 (λ_ bJ=>∃k xs cs,bJ.t d= .fn (.func k) xs cs∧C.oH k=bv∧W C f call b bJ (Aj C d Q)) zg|_=>Q x
theorem UC(h:eG C f call #[o0,o1] am 0 [o0] [] S (λ_ bJ=>∃k xs cs,bJ.t d= .fn (.func k) xs cs∧C.oH k=bv∧W C f call b bJ (Aj C d Q)) zg):CW C f call o0 o1 d b Q (.normal,S):=h
theorem UD(h:Q (.ret,S)):CW C f call o0 o1 d b Q (.ret,S):=h
theorem Tu{ks:List eD}{i:Nat}{ops:Array Oper}{m:Option (List Nat)}{k:FuncId}{xs cs:List U}(h:W C f call b S (Aj C d Q))(hd:S.t d= .fn (.func k) xs cs:=by exact rfl)(hk:C.oH k=true:=by exact rfl):eG C f call ops m i [] ks S (λ_ bJ=>∃k xs cs,bJ.t d= .fn (.func k) xs cs∧C.oH k=bv∧W C f call b bJ (Aj C d Q)) zg:=nl ⟨k,xs,cs,hd,hk,h⟩
theorem ab3(k:W C f call A S (CW C f call o0 o1 d b Q))(hs:vv C f c=ac (A,o0,o1,d,b)):∃x,o5 C f call lH c S=ac x∧Q x:=by obtain⟨⟨x,bJ⟩,h1,h2⟩:=k;rw[acG c hs,h1];simp only[AC];cases x with|normal=>(unfold CW at h2;simp only at h2;obtain⟨⟨bZ,ks⟩,h3,k,xs,cs,h4,h5,⟨y,T⟩,h6,z,h7,h8⟩:=Ah h2;refine⟨z, ?_,h8⟩;simp only[GY,h3,AC];simp only at h4;rw[h4];simp only[h5,if_true,h6,AC];exact h7)|_=>exact⟨_,rfl,h2⟩
theorem Rr{rv:List ResultVar}{ks:List Id}{r:U}{outs:List U}{fn:Func}{obs args:List U}{hl:List (Id×Rows)}{zs:List (Nat×U)}{nn N:Nat}(hf:C.P.funcs[f]? =ac fn)(hn:fn.ntmps=N)(hr:fn.results.toList=rv)(k:mz iS (C.jy f iS) [] (λia=>W C f (den C nn) A ia (CW C f (den C nn) o0 o1 d b (nQ C f rv ks r outs))) ⟨N,dM (λ_=> .aS) zs,kD hl⟩)(hb:fn.body=ac c:=by exact rfl)(he:C.ext f=none:=by exact rfl)(ew:C.jg f=true:=by exact rfl)(hl':GE args.length N=true:=by exact rfl)(hN:GE N iS=true:=by exact rfl)(ho:wT obs=ac hl:=by exact rfl)(hz:xJ 0 args=zs:=by exact spine)(hk:hl.map (·.1)=ks:=by exact spine)(hs:vv C f c=ac (A,o0,o1,d,b):=by exact rfl)(hdf:AH C f c=true:=by exact rfl):den C (nn+1) f (.aC obs::args)=ac (r,outs):=by obtain⟨ia,h0,bJ,h1,h2⟩:=k;simp only[kr,Hb]at h1;subst h1;obtain⟨⟨e,s⟩,ad5,h9⟩:=ab3 h2 hs;subst hr hn hz hk;show sF C (den C nn) lH f _=_;unfold sF;simp only[he,hf,hb,ew,if_true];unfold Dv;simp only[ho];rw[if_pos ⟨GT hl',GT hN⟩,hdf];simp only[if_true];have e0:zU fn.ntmps args hl=⟨fn.ntmps,dM (λ_=> .aS) (xJ 0 args),kD hl⟩:=by{unfold zU;congr 1;funext t;rw[Oh];simp};rw[e0,h0];simp only[AC];rw[ad5];simp only[AC];rcases h9 with⟨h3,Ym,al,vs,i1,i2,D3,h4,h5,h6,h7,h8⟩|⟨v,h3,rfl,h4⟩;·{have cJ:uB C fn (hl.map (·.1)) (mL (C.sC f) s)=ac (r,outs):=by{simp only at D3;rw[D3];unfold uB;simp only[h4,h5,h6,h7,if_true];rw[<-h8];congr 2;cases vs with|nil=>(rfl)|cons a l=>cases l<;>rfl};rcases h3 with h3|h3;·{simp only at h3;subst h3;exact cJ};·simp only at h3;subst h3;exact cJ};·simp only at h3 h4;subst h3;simp only[fH,qv,AC,h4,A0]
end
end Go.Ab
