import Derived.Test.YtbbhbdlljfffdaaGreatDoorAbV7
open Bool renaming and_eq_true->Hb,false_eq_true->Hc
open List renaming filter->GE,filter_cons_of_pos->Hd
open Nat renaming ble->GT,le_of_ble_eq_true->Ha
open Option renaming bind_some->AC,map_some->Do
open Option.some renaming injEq->Hk
set_option linter.all false
namespace Go.Ab
open Go
/-! ### Maps as lists of pairs -/
section
variable{K V:Type}
end
class aiL{K:Type}(Bz:K->Value)(kind:outParam TypeDesc)(eq:outParam (K->K->Bool)):Prop where same:∀a b,Instr.sameNow kind (Bz a) (Bz b)=some (eq a b)sc:∀a,dN (Bz a)=true
section
variable{K V:Type}{Bz:K->Value}{ev:V->Value}{kind:TypeDesc}{eq:K->K->Bool}
end
class aiN(C:ax)(T:TypeId)(kind:outParam TypeDesc)(z:outParam Value):Prop where mt:Af C T=some (kind,z)
section
variable{C:ax}{f:FuncId}{call:FuncId->List U->Option (U×List U)}{S:ah}{g:Bool}
variable{d:Nat}{ty:TypeId}{pos:String}{aG:Array Edge}{bk:Option (Nat×Bool)}{x y z:Operand}{T:TypeId}
variable{K V:Type}{Bz:K->Value}{ev:V->Value}{kind:TypeDesc}{eq:K->K->Bool}{c7:V}{l:List (K×V)}{k:K}{v:V}{id:Id}
end
open Go
inductive Mg(σ bF:Type)where|go(s:σ)|ret(t:bF)|ex(t:bF)
def Mg.on{σ bF ρ:Type}(acA:σ->Option ρ)(Ac acs:bF->Option ρ):Mg σ bF->Option ρ| .go s=>acA s| .ret s=>Ac s| .ex s=>acs s
section
variable{C:ax}{f:FuncId}{call:eZ}{S:ah}{Q:Exit×ah->Prop}{assign body:Code}{α σ bF ρ:Type}{r:ρ}{rep:σ->ah}{kz:bF->ah}{enc:α->List U}{ako:Operand}{ps:Array Tmp}{j:Nat}
end
section
variable{C:ax}{f:FuncId}{call:eZ}{c:Code}{Q:Exit×ah->Prop}{n:Nat}{t t2:Nat->U}{h:Id->Option (Option Rows)}{l:List Nat}{vs:List U}{zs:List (Nat×U)}
end
open Go
section
variable{C:ax}{f:FuncId}{call:eZ}{S:ah}{g:Bool}{d:Nat}{ty:TypeId}{pos:String}{aG:Array Edge}{bk:Option (Nat×Bool)}
end
open Go
section
variable{n:Nat}{t:Nat->U}{h L:Id->Option (Option Rows)}
/-! ### Opened, frozen -/
theorem cl{p s row off:Nat}{id:Id}{r r':List U}{x:Id×Option Rows}{wr:List (Id×Option Rows)}(hs:t s= .mp id row off:=by exact rfl)(hid:h id=some (some [r]):=by exact rfl)(hu:bB [p,s] 0 r=(r',x::wr):=by exact D3)(Jx:Nat.blt s n=true:=by exact rfl)(hf:fresh h (x::wr)=true:=by exact rfl):tv p ⟨n,t,h⟩ s=some ⟨n,t,aN h ((id,some [r'])::x::wr)⟩:=aeP hs hid hu Jx hf
/-! ### Names of what arguments lead to -/
def PK:U->Bool| .fn _ as cs=> !(as.isEmpty&&cs.isEmpty)| .rs _ _ _=>true| .mp _ _ _=>true| .mr _=>true| .agg _=>true|_=>false
variable{m j:Nat}{b:Bool}{p i:Id}{acc acc' sD y l:List (Id×Id)}{a:U}{as cs eR:List U}
theorem M8(hx:eR=[])(e:acc=y):dM L m b p j acc eR=y:=by subst hx;cases m<;>exact e
theorem W5(hx:eR=a::as)(hs:PK a=false)(k:dM L m b p (j+1) acc as=y):dM L (m+1) b p j acc eR=y:=by subst hx;cases a with|fn f xs cs=>(simp only[PK,Bool.not_eq_false',Hb,List.isEmpty_iff]at hs;obtain⟨rfl,rfl⟩:=hs;have e:dM L m true (j::p) 0 acc ([]++[])=acc:=by{cases m<;>rfl};simp only[dM,e];exact k)|_=>first|exact k|cases hs
theorem W4{o q:Nat}(hx:eR= .rs i o q::as)(hn:(!b||(gy acc i).isSome)=true)(k:dM L m b p (j+1) acc as=y):dM L (m+1) b p j acc eR=y:=by subst hx;simp only[dM,hn];exact k
theorem W2{o q:Nat}(hx:eR= .mp i o q::as)(hn:(gy acc i).isSome=false)(hh:L i=some (some [cs]))(hl:acc++[(i,j::p)]=acc')(h1:dM L m false (j::p) 0 acc' cs=sD)(k:dM L m b p (j+1) sD as=y):dM L (m+1) b p j acc eR=y:=by subst hx hl h1;simp only[dM,hn,hh];exact k
theorem W3{o q:Nat}(hx:eR= .mp i o q::as)(hn:(gy acc i).isSome=true)(k:dM L m b p (j+1) acc as=y):dM L (m+1) b p j acc eR=y:=by subst hx;simp only[dM,hn];exact k
theorem W0(hx:eR= .agg cs::as)(h1:dM L m b (j::p) 0 acc cs=sD)(k:dM L m b p (j+1) sD as=y):dM L (m+1) b p j acc eR=y:=by subst hx h1;simp only[dM];exact k
theorem W1{f:Fn}{xs:List U}(hx:eR= .fn f xs cs::as)(h1:dM L m true (j::p) 0 acc (xs++cs)=sD)(k:dM L m b p (j+1) sD as=y):dM L (m+1) b p j acc eR=y:=by subst hx h1;simp only[dM];exact k
theorem HB(k:dM L m b p j acc eR=y:=by(repeat'(first|((with_reducible apply M8);(with_reducible exact rfl);exact rfl)|((with_reducible apply W5);exact rfl;first|exact rfl|exact alc|exact ald)|((with_reducible apply ajn);exact rfl;exact rfl;exact spine)|((with_reducible apply W4);exact rfl;exact rfl)|((with_reducible apply ajl);exact rfl;exact rfl;exact spine)|((with_reducible apply ajm);exact rfl;exact rfl)|((with_reducible apply W3);exact rfl;exact rfl)|((with_reducible apply W2);exact rfl;exact rfl;exact rfl;exact spine)|((with_reducible apply W0);exact rfl)|((with_reducible apply W1);exact rfl)|(apply M8;exact rfl;exact rfl)));first|done|fail):dM L m b p j acc eR=y:=k
/-! ### The objects that go -/
variable{o k:Id}{r l':List (Id×Id)}{rows x1 aT:Rows}{i1 i2 gone ids:List Id}{obs outs:List U}{keep:Id->Bool}{back:List (Id×Option Rows)}
theorem XD(hf:eB rows=true):nx L keep rows=some (rows,[]):=by simp only[nx,hf,if_true]
theorem XE(hf:eB rows=false)(hc:eS (k3 L keep) rows=some (aT,ids)):nx L keep rows=some (aT,ids):=by simp[nx,hf,hc]
theorem Np{y:Option (Rows×List Id)}(k:nx L keep rows=y:=by(repeat'(first|(apply XD;first|exact wo _|exact rfl|exact H8)|(apply aju;exact rfl;exact rfl;(first|(with_reducible assumption)|assumption);exact inferInstance;rotate_left;exact rfl)|(apply XE;exact rfl)|exact N3|(apply N4;exact rfl)|exact XC|(apply Nk;exact rfl)|exact Hy|exact M1|exact M3|exact Hz|(apply M5;exact rfl;exact rfl;exact mU)|(apply HA;exact rfl;exact rfl;exact mU)|(apply M4;exact rfl;exact rfl;exact mU)|(apply Bu;first|exact rfl|exact NW|exact NZ|exact NX)|exact M0|exact BN|(apply BM;exact rfl)));first|done|fail):nx L keep rows=y:=k
theorem ad5:gP L l []=some ([],[]):=rfl
theorem ad4(h:L o=some (some rows))(hc:nx L (tj l) rows=some (x1,i1))(hr:mh l x1=some aT)(hy:gP L l r=some (obs,gone)):gP L l ((o,k)::r)=some (.bM k aT::obs,i1++gone):=by simp[gP,h,hc,hr,hy]
theorem KC{y:Option (List U×List Id)}(k:gP L l r=y:=by(repeat'(first|exact ad5|(apply ad4;exact rfl;exact Np;(first|exact K8|exact K9|exact La))));first|done|fail):gP L l r=y:=k
theorem Wb:gU l' [] []=some []:=rfl
theorem V9(hr:mh l' rows=some aT)(hy:gU l' r outs=some back):gU l' ((o,k)::r) (.bM k rows::outs)=some ((o,some aT)::back):=by simp[gU,hr,hy]
theorem Wa(hy:gU l' r outs=some back):gU l' ((o,k)::r) (.aF::outs)=some ((o,none)::back):=by simp[gU,hy]
theorem W7:hY L []=[]:=rfl
theorem W6{x:Id×Option Rows}{gV:List (Id×Option Rows)}(hs:yc L x=false)(k:hY L gV=back):hY L (x::gV)=x::back:=by unfold hY at*;rw[Hd (by simp[hs]),k]
theorem HE{gV:List (Id×Option Rows)}{y:List (Id×Option Rows)}(k:hY L gV=y:=by(repeat'(first|exact W7|(apply ajo;exact rfl)|(apply W6;first|exact amr|exact rfl)));first|done|fail):hY L gV=y:=k
theorem Hq{y:Option (List (Id×Option Rows))}(k:gU l' r outs=y:=by(repeat'(first|exact Wb|(apply V9;(first|exact K8|exact K9|exact La))|apply Wa));first|done|fail):gU l' r outs=y:=k
/-! Values under other names -/
theorem agQ(hf:flat a=true):eH l a=a:=by cases a with|agg cs=>(simp only[flat]at hf;simp[eH,Dv hf])|aI cs=>(simp only[flat]at hf;simp[eH,Dv hf])|fn f as cs=>(simp only[flat,Hb]at hf;simp[eH,Dv hf.1,Dv hf.2])|rs _ _ _=>(simp[flat]at hf)|mp _ _ _=>(simp[flat]at hf)|mr _=>(simp[flat]at hf)|c6 _ _=>(simp[flat]at hf)|bW=>(simp[flat]at hf)|_=>simp only[eH,vr,AD];rw[if_pos hf]
theorem Yx(hf:cT cs=true):flat (.agg cs)=true:=hf
theorem YG(hf:cT cs=true):flat (.aI cs)=true:=hf
theorem Yz{α:Type}{c:α->List U}{x:α}[hc:pW c]:cT (c x)=true:=hc.fl x
theorem Ib{a:U}(k:flat a=true:=by(repeat'(first|exact rfl|exact Yy|exact YC|exact NY|(with_reducible apply Yx)|(with_reducible apply YG)|exact Yz|exact YB|(apply NV;exact rfl)));first|done|fail):flat a=true:=k
theorem Lj{a':U}(k:eH l a=a':=by first|(refine agQ ?_;exact Ib)|exact rfl):eH l a=a':=k
theorem agB(hx:eR=[]:=by exact rfl):eR.map (eH l)=[]:=by subst hx;rfl
theorem agA{a':U}{bs:List U}(hx:eR=a::as)(h:eH l a=a')(k:as.map (eH l)=bs):eR.map (eH l)=a'::bs:=by subst hx h k;rfl
theorem Li{bs:List U}(k:eR.map (eH l)=bs:=by(repeat'(first|exact agB|(apply agA;exact rfl;exact Lj)));first|done|fail):eR.map (eH l)=bs:=k
end
section
variable{C:ax}{f:FuncId}{call:eZ}{S:ah}{g:Bool}{d:Nat}{ty:TypeId}{pos:String}{aG:Array Edge}{bk:Option (Nat×Bool)}
variable{bV:Operand}{ts:Array TypeId}{dc:FuncId}{as bs args r0 obs outs xD al2:List U}{l:List (Id×Id)}{gone:List Id}{r v v':U}{back yW lO wr:List (Id×Option Rows)}{xs:Array Operand}
theorem NJ{d':Option Tmp}(hfo:un g (S.get C bV)= .fn (.func dc) as bs)(di:C.gC dc=true):bp C f call S g ⟨d', .call ⟨.value bV,xs,ts⟩,ty,pos,aG,bk⟩=oU C f call S ⟨d', .call ⟨.value bV,xs,ts⟩,ty,pos,aG,bk⟩ dc (as++(xs.toList.map fun x=>un g (S.get C x))++bs):=by show(match kG C (un g (S.get C bV))with|some x=>oU C f call S _ x.1 (x.2.1++(xs.toList.map fun x=>un g (S.get C x))++x.2.2)|none=>_)=_;have:kG C (un g (S.get C bV))=some (dc,as,bs):=by{rw[hfo];simp[kG,di]};rw[this]
theorem MY(hc:call dc (.aI obs::r0)=some (r,outs))(hfo:un g (S.get C bV)= .fn (.func dc) as bs)(di:C.gC dc=true)(ha:as++(xs.toList.map fun x=>un g (S.get C x))++bs=args)(hl:dM S.h 60 true [gO] 0 [] args=l)(ho:gP S.h l l=some (obs,gone))(s5:args.map (eH l)=r0)(ql:(dm (l.map (·.1))&&dm (l.map (·.2))&&(l.all fun x=>iI x.2)&&dm gone&&qX gone (l.map (·.1)))=true)(hb:gU (l.map fun x=>(x.2,x.1)) l outs=some back)(hp:zX r=false)(hv:eH (l.map fun x=>(x.2,x.1)) (if eG C f (some d)then(if flat r then dy r else .aF)else r)=v)(hi:imp [d] v=(v',lO))(hf:fresh S.h lO=true)(hw:lO++(hY S.h back++gone.map fun i=>(i,none))=wr):bp C f call S g ⟨some d, .call ⟨.value bV,xs,ts⟩,ty,pos,aG,bk⟩=some ⟨[(d,v')],l.map (·.1),wr⟩:=by rw[NJ hfo di,ha];subst hw;have e:nC call S.h dc args=some ⟨r,l,back,gone⟩:=by{unfold nC zl;rw[hl,ho];simp only[ql,if_true,s5,hc,hb,Do]};unfold oU;rw[e];simp only[AC,hp,Hc,if_false,iT,hv,hi,hf,if_true];rfl
theorem jQ(hc:call dc (.aI obs::r0)=some (r,outs)){rd:List Id}(hfo:un g (S.get C bV)= .fn (.func dc) as bs:=by exact rfl)(di:C.gC dc=true:=by exact rfl)(ha:as++(xs.toList.map fun x=>un g (S.get C x))++bs=args:=by exact spine)(hl:dM S.h 60 true [gO] 0 [] args=l:=by exact HB)(ho:gP S.h l l=some (xD,gone):=by exact KC)(qn:xD=obs:=by exact rfl)(s5:args.map (eH l)=r0:=by exact Li)(ql:(dm (l.map (·.1))&&dm (l.map (·.2))&&(l.all fun x=>iI x.2)&&dm gone&&qX gone (l.map (·.1)))=true:=by exact rfl)(hb:gU (l.map fun x=>(x.2,x.1)) l outs=some back:=by exact Hq)(hp:zX r=false:=by exact rfl)(hz:(C.dY f).contains d=false:=by exact rfl)(hv:eH (l.map fun x=>(x.2,x.1)) r=v:=by exact Lj)(hi:imp [d] v=(v',lO):=by exact zU)(hf:fresh S.h lO=true:=by exact rfl)(gr:hY S.h back=yW:=by exact HE)(hw:lO++(yW++gone.map fun i=>(i,none))=wr:=by exact spine)(hrd:l.map (·.1)=rd:=by exact spine):bp C f call S g ⟨some d, .call ⟨.value bV,xs,ts⟩,ty,pos,aG,bk⟩=some ⟨[(d,v')],rd,wr⟩:=by subst hrd qn;exact MY hc hfo di ha hl ho s5 ql hb hp (by simp only[eG,hz,Hc,if_false];exact hv) hi hf (by rw[gr];exact hw)
theorem dI(hc:call dc (.aI obs::r0)=some (r,outs)){rd:List Id}{v0:U}(hfo:un g (S.get C bV)= .fn (.func dc) as bs:=by exact rfl)(di:C.gC dc=true:=by exact rfl)(ha:as++(xs.toList.map fun x=>un g (S.get C x))++bs=args:=by exact spine)(hl:dM S.h 60 true [gO] 0 [] args=l:=by exact HB)(ho:gP S.h l l=some (xD,gone):=by exact KC)(qn:xD=obs:=by exact rfl)(s5:args.map (eH l)=r0:=by exact Li)(ql:(dm (l.map (·.1))&&dm (l.map (·.2))&&(l.all fun x=>iI x.2)&&dm gone&&qX gone (l.map (·.1)))=true:=by exact rfl)(hb:gU (l.map fun x=>(x.2,x.1)) l outs=some back:=by exact Hq)(hp:zX r=false:=by exact rfl)(hz:(C.dY f).contains d=true:=by exact rfl)(hfl:flat r=true:=by exact Ib)(hfz:dy r=v0:=by exact Fb)(hv:eH (l.map fun x=>(x.2,x.1)) v0=v:=by exact Lj)(hi:imp [d] v=(v',lO):=by exact zU)(hf:fresh S.h lO=true:=by exact rfl)(gr:hY S.h back=yW:=by exact HE)(hw:lO++(yW++gone.map fun i=>(i,none))=wr:=by exact spine)(hrd:l.map (·.1)=rd:=by exact spine):bp C f call S g ⟨some d, .call ⟨.value bV,xs,ts⟩,ty,pos,aG,bk⟩=some ⟨[(d,v')],rd,wr⟩:=by subst hrd qn;exact MY hc hfo di ha hl ho s5 ql hb hp (by simp only[eG,hz,if_true,hfl,hfz];exact hv) hi hf (by rw[gr];exact hw)
theorem Zy{v:Value}(hc:call dc (.aI obs::r0)=some (.bl v,outs))(ha:as++(xs.toList.map fun x=>un g (S.get C x))++bs=args)(hl:dM S.h 60 true [gO] 0 [] args=l)(ho:gP S.h l l=some (obs,gone))(s5:args.map (eH l)=r0)(ql:(dm (l.map (·.1))&&dm (l.map (·.2))&&(l.all fun x=>iI x.2)&&dm gone&&qX gone (l.map (·.1)))=true)(hb:gU (l.map fun x=>(x.2,x.1)) l outs=some back):nC call S.h dc (as++(xs.toList.map fun x=>un g (S.get C x))++bs)=some ⟨.bl v,l,back,gone⟩:=by rw[ha];unfold nC zl;rw[hl,ho];simp only[ql,if_true,s5,hc,hb,Do]
theorem Yo{d':Option Tmp}(hfo:un g (S.get C bV)= .fn (.func dc) as bs)(di:C.gC dc=true){v:Value}(kH:nC call S.h dc (as++(xs.toList.map fun x=>un g (S.get C x))++bs)=some ⟨.bl v,l,back,gone⟩):bp C f call S g ⟨d', .call ⟨.value bV,xs,ts⟩,ty,pos,aG,bk⟩=none:=by rw[NJ hfo di];unfold oU;rw[kH];rfl
theorem iy{Z:List dJ->nZ->Prop}{K:List dJ->ah->Prop}{m:Option (List Nat)}{ops:Array Oper}{i:Nat}{lo:List Oper}{ks:List dJ}{v:Value}{d':Option Tmp}(hc:call dc (.aI obs::r0)=some (.bl v,outs)){rd:List Id}(k:Z ks ⟨i,lo,S,v,⟨[],rd,wr⟩⟩)(hfo:un true (S.get C bV)= .fn (.func dc) as bs:=by exact rfl)(di:C.gC dc=true:=by exact rfl)(ha:as++(xs.toList.map fun x=>un true (S.get C x))++bs=args:=by exact spine)(hl:dM S.h 60 true [gO] 0 [] args=l:=by exact HB)(ho:gP S.h l l=some (xD,gone):=by exact KC)(qn:xD=obs:=by exact rfl)(s5:args.map (eH l)=r0:=by exact Li)(ql:(dm (l.map (·.1))&&dm (l.map (·.2))&&(l.all fun x=>iI x.2)&&dm gone&&qX gone (l.map (·.1)))=true:=by exact rfl)(hb:gU (l.map fun x=>(x.2,x.1)) l outs=some back:=by exact Hq)(gr:hY S.h back=yW:=by exact HE)(hw:yW++gone.map (fun i=>(i,none))=wr:=by exact spine)(hrd:l.map (·.1)=rd:=by exact spine)(hm:m=none:=by exact rfl):dL C f call ops m i (⟨d', .call ⟨.value bV,xs,ts⟩,ty,pos,aG,none⟩::lo) ks S K Z:=by subst hrd qn gr hw;have kH:=Zy (g:=true) hc ha hl ho s5 ql hb;refine Rg (Yo hfo di kH) ?_ k hm;have aaR:kG C (un true (S.get C bV))=some (dc,as,bs):=by{rw[hfo];simp[kG,di]};simp only[nK,n9,aaR,Bt,kH,AC]
theorem afV{Z:List dJ->nZ->Prop}{K:List dJ->ah->Prop}{m:Option (List Nat)}{ops:Array Oper}{i:Nat}{lo:List Oper}{ks:List dJ}{x:Operand}{tt:TypeId}{v:Value}{d':Option Tmp}(k:Z ks ⟨i,lo,S, .iface tt v,⟨[],[],[]⟩⟩)(hx:un true (S.get C x)= .val (.iface tt v):=by exact rfl)(hm:m=none:=by exact rfl):dL C f call ops m i (⟨d', .panic x,ty,pos,aG,none⟩::lo) ks S K Z:=by refine Rg rfl ?_ k hm;simp only[nK,n9,hx]
end
/-! ### Functions -/
def vE:Nat->List U->List (Nat×U)|_,[]=>[]|i,p::ps=>(i,p)::vE (i+1) ps
theorem LI:∀(ps:List U)(i t:Nat),cS (fun _=> .aF) (vE i ps) t=if t<i then .aF else ps.getD (t-i) .aF|[],i,t=>by{simp[vE,cS]}|p::ps,i,t=>by simp only[vE,cS,aj];by_cases e:t=i;·{subst e;simp};·rw[if_neg e,LI ps (i+1) t];by_cases h1:t<i;·{rw[if_pos h1,if_pos (by omega)]};·rw[if_neg h1,if_neg (by omega),show t-i=(t-(i+1))+1 by omega];rfl
def qN(C:ax)(f:FuncId)(rv:List ResultVar)(ks:List Id)(r:U)(outs:List U)(x:Exit×ah):Prop:=((x.1= .ret∨x.1= .normal)∧∃S al vs i1 i2,lg (C.qZ f) x.2=S∧(ks.filter fun k=>jN (S.h k))=al∧lH C S (mD S.h fun i=>al.contains i) rv=some (vs,i1)∧jS S.h (fun i=>al.contains i) ks=some (outs,i2)∧dm (al++(i1++i2))=true∧vg vs=r)∨∃v,x.1=fe v∧r= .bl v∧zg ks (lg (C.za f) x.2)=some outs
section
variable{C:ax}{f:FuncId}{S:ah}{rv:List ResultVar}{ks al:List Id}{vs outs outs' cs cs':List U}{ids is i1 i2:List Id}{r v v' x:U}{p:U->Option (U×List Id)}{L:Id->Option (Option Rows)}{keep:Id->Bool}{rows aT:Rows}{k:Id}{T:TypeId}
theorem agF:lH C S p []=some ([],[]):=rfl
theorem agH{t:Nat}(h:p (un true (S.t t))=some (v,ids))(hr:lH C S p rv=some (vs,is)):lH C S p (.tmp t::rv)=some (v::vs,ids++is):=by show(vu C S p (.tmp t)).bind _=_;simp only[vu,h,AC,hr,Do]
theorem agG{a m:Nat}{id:Id}{bb:Bool}{r:List U}[ha:cX C T bb m](hx:un true (S.t a)= .mp id 0 0)(hh:S.h id=some (some [r]))(hl:GT m r.length=true)(hv:jx bb (r.take m)=some v)(h:p v=some (v',ids))(hr:lH C S p rv=some (vs,is)):lH C S p (.cell a T::rv)=some (v'::vs,id::ids++is):=by show(vu C S p (.cell a T)).bind _=_;have hl':0+m<=r.length:=by{have:=Ha hl;omega};simp only[vu,ha.kZ,ha.sz,hx,hh,List.getElem?_cons_zero,if_pos hl',List.drop_zero,hv,AC,h,hr,Do]
theorem M9:∀{cs:List U},cT cs=true->eu (gW L keep) cs=some (cs,[])|[],_=>rfl|c::cs,h=>by simp only[cT,Hb]at h;simp only[eu,Bu h.1,AC,M9 h.2,Do];rfl
theorem XI(hf:flat x=true):mD L keep x=some (x,[]):=by cases x with|agg cs=>(simp only[flat]at hf;simp only[mD,M9 hf,Do])|_=>exact Bu (h:=L) (keep:=keep) hf
theorem XG(hx:x= .agg cs:=by exact rfl)(h:eu (gW L keep) cs=some (cs',ids)):mD L keep x=some (.agg cs',ids):=by subst hx;simp only[mD,h,Do]
def isAgg:U->Bool| .agg _=>true|_=>false
theorem XK(hx:isAgg x=false)(h:gW L keep x=some (v,ids)):mD L keep x=some (v,ids):=by cases x<;>first|exact h|cases hx
theorem HM{y:Option (U×List Id)}(k:mD L keep x=y:=by(repeat'(first|(refine XI ?_;exact Ib)|(apply XG;exact rfl)|(apply XK;exact rfl)|exact Hy|exact M1|exact M3|exact Hz|(apply M5;exact rfl;exact rfl;exact mU)|(apply HA;exact rfl;exact rfl;exact mU)|(apply M4;exact rfl;exact rfl;exact mU)|(apply Bu;first|exact rfl|exact NW|exact NZ|exact NX)|exact M0|exact BN|(apply BM;exact rfl)));first|done|fail):mD L keep x=y:=k
theorem RP{y:Option (List U×List Id)}(h:lH C S (mD L keep) rv=y:=by repeat'(first|with_reducible exact agF|((with_reducible apply agH);exact HM)|((with_reducible apply agG);exact rfl;exact rfl;exact rfl;(first|exact FY|exact Kf rfl);exact HM)|((with_reducible apply amg);exact rfl;exact rfl;(first|exact FY|exact Kf rfl);exact HM))):lH C S (mD L keep) rv=y:=h
theorem ad0:jS L keep []=some ([],[]):=rfl
theorem adY(h:L k=some (some rows))(hc:nx L keep rows=some (aT,i1))(hy:jS L keep ks=some (outs,i2)):jS L keep (k::ks)=some (.bM k aT::outs,i1++i2):=by simp[jS,h,hc,hy]
theorem adZ(h:jN (L k)=false)(hy:jS L keep ks=some (outs,i2)):jS L keep (k::ks)=some (.aF::outs,i2):=by unfold jS;split;·{rename_i rows e;rw[e]at h;cases h};·rw[hy];rfl
theorem Kz{y:Option (List U×List Id)}(h:jS L keep ks=y:=by(repeat'(first|exact ad0|(apply adY;exact rfl;exact Np)|(apply adZ;exact rfl)));first|done|fail):jS L keep ks=y:=h
theorem YA{p:Id->Bool}:GE p []=([]:List Id):=rfl
theorem YF{p:Id->Bool}{k:Id}{ks al:List Id}(h:p k=true)(hy:GE p ks=al):GE p (k::ks)=k::al:=by rw[Hd h,hy]
theorem YH{p:Id->Bool}{k:Id}{ks al:List Id}(h:p k=false)(hy:GE p ks=al):GE p (k::ks)=al:=by rw[List.filter_cons_of_neg (by simp[h]),hy]
theorem Ic{p:Id->Bool}{y:List Id}(h:GE p ks=y:=by(repeat'(first|exact YA|(apply YF;exact rfl)|(apply YH;exact rfl)));first|done|fail):GE p ks=y:=h
theorem acD{S:ah}{l:List Id}(hl:l=[]:=by exact rfl):lg l S=S:=by subst hl;rfl
theorem acE{n:Nat}{t:Nat->U}{h:Id->Option (Option Rows)}{l l2:List Id}(hl:l=l2:=by exact spine):lg l ⟨n,t,h⟩=⟨n,t,aN h (l2.map fun i=>(i,none))⟩:=by subst hl;rfl
theorem JV{S S':ah}{l:List Id}(k:lg l S=S':=by first|exact acD|exact acE):lg l S=S':=k
theorem fI{gm:ah}(hk:lg (C.qZ f) gm=S:=by exact JV)(ha:(ks.filter fun k=>jN (S.h k))=al:=by exact Ic)(h:lH C S (mD S.h fun i=>al.contains i) rv=some (vs,i1):=by exact RP)(ho:jS S.h (fun i=>al.contains i) ks=some (outs',i2):=by exact Kz)(qn:outs'=outs:=by exact rfl)(hn:dm (al++(i1++i2))=true:=by exact rfl)(hr:vg vs=r:=by exact rfl):qN C f rv ks r outs (.ret,gm):=by subst qn;exact .inl ⟨.inl rfl,S,al,vs,i1,i2,hk,ha,h,ho,hn,hr⟩
theorem Im{gm:ah}(hk:lg (C.qZ f) gm=S:=by exact JV)(ha:(ks.filter fun k=>jN (S.h k))=al:=by exact Ic)(h:lH C S (mD S.h fun i=>al.contains i) rv=some (vs,i1):=by exact RP)(ho:jS S.h (fun i=>al.contains i) ks=some (outs',i2):=by exact Kz)(qn:outs'=outs:=by exact rfl)(hn:dm (al++(i1++i2))=true:=by exact rfl)(hr:vg vs=r:=by exact rfl):qN C f rv ks r outs (.normal,gm):=by subst qn;exact .inl ⟨.inr rfl,S,al,vs,i1,i2,hk,ha,h,ho,hn,hr⟩
theorem iL{gm:ah}{v:Value}(hk:lg (C.za f) gm=S:=by exact JV)(ha:(ks.filter fun k=>jN (S.h k))=al:=by exact Ic)(ho:jS S.h (fun i=>al.contains i) ks=some (outs',i2):=by exact Kz)(qn:outs'=outs:=by exact rfl)(hn:dm (al++i2)=true:=by exact rfl)(hr:r=U.bl v:=by exact rfl):qN C f rv ks r outs (fe v,gm):=by subst qn ha hk;refine .inr ⟨v,rfl,hr, ?_⟩;unfold zg;simp only[ho,hn,if_true]
theorem k6{fn:Func}{c:Code}{obs args:List U}{hl:List (Id×Rows)}{zs:List (Nat×U)}{nn N:Nat}(hf:C.P.funcs[f]? =some fn)(hn:fn.ntmps=N)(hr:fn.results.toList=rv)(k:lQ gO (C.iu f gO) [] (fun gm=>W C f (den C nn) c gm (qN C f rv ks r outs)) ⟨N,cS (fun _=> .aF) zs,jw hl⟩)(hb:fn.body=some c:=by exact rfl)(he:C.ext f=none:=by exact rfl)(di:C.gC f=true:=by exact rfl)(hl':GT args.length N=true:=by exact rfl)(hN:GT N gO=true:=by exact rfl)(ho:vc obs=some hl:=by exact rfl)(hz:vE 0 args=zs:=by exact spine)(hk:hl.map (·.1)=ks:=by exact spine)(hdf:y8 C f c=false:=by exact rfl):den C (nn+1) f (.aI obs::args)=some (r,outs):=by obtain⟨gm,h0,aR,h1,⟨e,s⟩,h2,h9⟩:=k;simp only[jJ,Hk]at h1;subst h1;subst hn hz hk;show q4 C (den C nn) kf f _=_;unfold q4;simp only[he,hf,hb,di,if_true];unfold BF;simp only[ho];rw[if_pos ⟨Ha hl',Ha hN⟩,hdf];simp only[Hc,if_false];have e0:yf fn.ntmps args hl=⟨fn.ntmps,cS (fun _=> .aF) (vE 0 args),jw hl⟩:=by{unfold yf;congr 1;funext t;rw[LI];simp};rw[e0,h0];simp only[AC,h2];rcases h9 with⟨h3,UD,al,vs,i1,i2,Cj,h4,h5,h6,h7,h8⟩|⟨v,h3,rfl,h4⟩;·{subst hr;have cz:sR C fn (hl.map (·.1)) (lg (C.qZ f) s)=some (r,outs):=by{simp only at Cj;rw[Cj];unfold sR;simp only[h4,h5,h6,h7,if_true];rw[<-h8];congr 2;cases vs with|nil=>(rfl)|cons a l=>cases l<;>rfl};rcases h3 with h3|h3;·{simp only at h3;subst h3;exact cz};·simp only at h3;subst h3;exact cz};·simp only at h3 h4;subst h3;simp only[fe,pI,AC,h4,Do]
end
open Go
section
variable{C:ax}{f:FuncId}{call:eZ}{S:ah}{g:Bool}{d:Nat}{t ty:TypeId}{pos:String}{aG:Array Edge}{bk:Option (Nat×Bool)}{x:Operand}
def qc(l:List ByteArray):U:= .sl (l.map fun s=>[.val (.string s)])
theorem Qk{α:Type}{c:α->U}{T:TypeId}{y:Operand}{k:IntKind}{e:TypeId}{m len:Nat}{bb:Bool}{i:Int}{r:α}{q:List α}(hi:idx q i=some r)[hu:de C T (.array len e)][hs:cX C e bb m](hx:un g (S.get C x)= .aP (q.map c):=by exact rfl)(hy:un g (S.get C y)= .val (.int k i):=by first|exact rfl|exact ck)(hm:m=1:=by exact rfl)(hl:q.length=len:=by exact rfl):bp C f call S g ⟨some d, .indexAddr T x y,ty,pos,aG,bk⟩=some ⟨[(d, .aP (c r::(q.map c).drop (i.toNat+1)))],[],[]⟩:=by show n5 C S _ T (un g (S.get C x)) (ek (un g (S.get C y)))=_;have hb:=CB hi;have hn:=td hi;subst hm hl;have hlt:i.toNat<q.length:=by{omega};have e1:(q.map c).drop (i.toNat*1)=c r::(q.map c).drop (i.toNat+1):=by{have:q[i.toNat]=r:=by{rw[List.getElem?_eq_getElem hlt]at hn;simpa using hn};rw[Nat.mul_one,List.drop_eq_getElem_cons (by simpa using hlt)];simp[this]};simp only[hx,hy,ek,n5,hu.ul,hs.sz];rw[if_pos ⟨hb.1,hb.2,by simp;omega⟩,e1];rfl
end
open Go
inductive aW(α β:Type)where|ok(a:α)|bl(v:Value)(b:β)
def aW.on{α β γ:Type}(p:Value->β->Option γ)(k:α->Option γ):aW α β->Option γ| .ok a=>k a| .bl v b=>p v b
theorem ig{α β γ:Type}{x:Option (aW α β)}{p:Value->β->Option γ}{k:α->Option γ}{r:γ}{G:Prop}(hF:x.bind (aW.on p k)=some r)(h1:∀v b,x=some (.bl v b)->p v b=some r->G)(h2:∀a,x=some (.ok a)->k a=some r->G):G:=by cases x with|none=>(cases hF)|some y=>cases y with|ok a=>(exact h2 a rfl hF)|bl v b=>exact h1 v b rfl hF
theorem agD{S:ah}:(Exit.ret,S).1≠ .normal:=by simp
theorem rV{v:Value}{S:ah}:(fe v,S).1≠ .normal:=by simp[fe]
theorem HZ{C:ax}{f:FuncId}{rv:List ResultVar}{ks:List Id}{r:U}{outs:List U}{x:Exit×ah}(hne:x.1≠ .normal)(h:qN C f rv ks r outs x):x.1= .ret∨∃v,x.1=fe v:=by rcases h with⟨h|h,_⟩|⟨v,h,_⟩;·{exact .inl h};·{exact absurd h hne};·exact .inr ⟨v,h⟩
class GZ(C:ax)(t:TypeId):Prop where Kn:(match C.P.underlying t with|some (.interface _)=>false|some _=>true|none=>false)=true
section
variable{C:ax}{f:FuncId}{call:eZ}{S:ah}{g:Bool}{d:Nat}{t ty:TypeId}{pos:String}{aG:Array Edge}{bk:Option (Nat×Bool)}{x:Operand}
theorem Yl [hi:GZ C t]{o:Oper}{a:U}{v:Value}(hv:lM a=some v)(hs:dN (.iface t v)=true):p9 C o t a=ret o (.val (.iface t v)):=by have h:=hi.Kn;unfold p9;split at h;·{cases h};·{rename_i h1 h2;rw[h2];cases he:C.P.underlying t<;>simp_all};·cases h
theorem adU{cs:List U}{vs:List Value}[hi:GZ C t](hx:un g (S.get C x)= .agg cs:=by first|exact rfl|exact ck)(hv:iC cs=some vs:=by exact rfl)(hs:vs.all DD=true:=by exact rfl):bp C f call S g ⟨some d, .makeInterface t x,ty,pos,aG,bk⟩=some ⟨[(d, .val (.iface t (.agg ⟨vs⟩)))],[],[]⟩:=by show p9 C _ t (un g (S.get C x))=_;rw[hx,Yl (v:= .agg ⟨vs⟩) (by simp only[lM,hv,Do]) hs];rfl
end
open Go
section
variable{C:ax}{f:FuncId}{call:eZ}{S:ah}{A b c:Code}{o0 o1:Oper}{d:Nat}{Q:Exit×ah->Prop}
def yD(C:ax)(d:Nat)(Q:Exit×ah->Prop)(x:Exit×ah):Prop:=∃y,tJ C d x=some y∧Q y
theorem Rl(h:Q (.ret,S)):yD C d Q (.ret,S):=⟨_,rfl,h⟩
theorem Rk{v:Value}{k:FuncId}{xs cs:List U}{g:Value->List U->List U->ah->Option ah}{S':ah}(hd:S.t d= .fn (.func k) xs cs)(hg:g v xs cs S=some S')(h:Q (.ret,S'))(hk:C.oE k=some g:=by exact rfl):yD C d Q (fe v,S):=⟨(.ret,S'),by simp only[fe,tJ,pI,AC,hd,hk,hg,Do],h⟩
def Ba(C:ax)(f:FuncId)(call:eZ)(o0 o1:Oper)(d:Nat)(b:Code)(Q:Exit×ah->Prop)(x:Exit×ah):Prop:=match x.1 with| .normal=>dL C f call #[o0,o1] none 0 [o0] [] x.2 (fun _ aR=>∃k xs cs,aR.t d= .fn (.func k) xs cs∧C.nG k=true∧W C f call b aR (yD C d Q)) xz|_=>Q x
theorem afZ(h:dL C f call #[o0,o1] none 0 [o0] [] S (fun _ aR=>∃k xs cs,aR.t d= .fn (.func k) xs cs∧C.nG k=true∧W C f call b aR (yD C d Q)) xz):Ba C f call o0 o1 d b Q (.normal,S):=h
theorem af0(h:Q (.ret,S)):Ba C f call o0 o1 d b Q (.ret,S):=h
theorem adz{ks:List dJ}{i:Nat}{ops:Array Oper}{m:Option (List Nat)}{k:FuncId}{xs cs:List U}(h:W C f call b S (yD C d Q))(hd:S.t d= .fn (.func k) xs cs:=by exact rfl)(hk:C.nG k=true:=by exact rfl):dL C f call ops m i [] ks S (fun _ aR=>∃k xs cs,aR.t d= .fn (.func k) xs cs∧C.nG k=true∧W C f call b aR (yD C d Q)) xz:=nl ⟨k,xs,cs,hd,hk,h⟩
theorem XT(k:W C f call A S (Ba C f call o0 o1 d b Q))(hs:tT C f c=some (A,o0,o1,d,b)):∃x,n6 C f call kf c S=some x∧Q x:=by obtain⟨⟨x,aR⟩,h1,h2⟩:=k;rw[Yq c hs,h1];simp only[AC];cases x with|normal=>(unfold Ba at h2;simp only at h2;obtain⟨⟨bu,ks⟩,h3,k,xs,cs,h4,h5,⟨y,T⟩,h6,z,h7,h8⟩:=yC h2;refine⟨z, ?_,h8⟩;simp only[EZ,h3,AC];simp only at h4;rw[h4];simp only[h5,if_true,h6,AC];exact h7)|_=>exact⟨_,rfl,h2⟩
theorem YT{rv:List ResultVar}{ks:List Id}{r:U}{outs:List U}{fn:Func}{obs args:List U}{hl:List (Id×Rows)}{zs:List (Nat×U)}{nn N:Nat}(hf:C.P.funcs[f]? =some fn)(hn:fn.ntmps=N)(hr:fn.results.toList=rv)(k:lQ gO (C.iu f gO) [] (fun gm=>W C f (den C nn) A gm (Ba C f (den C nn) o0 o1 d b (qN C f rv ks r outs))) ⟨N,cS (fun _=> .aF) zs,jw hl⟩)(hb:fn.body=some c:=by exact rfl)(he:C.ext f=none:=by exact rfl)(di:C.gC f=true:=by exact rfl)(hl':GT args.length N=true:=by exact rfl)(hN:GT N gO=true:=by exact rfl)(ho:vc obs=some hl:=by exact rfl)(hz:vE 0 args=zs:=by exact spine)(hk:hl.map (·.1)=ks:=by exact spine)(hs:tT C f c=some (A,o0,o1,d,b):=by exact rfl)(hdf:y8 C f c=true:=by exact rfl):den C (nn+1) f (.aI obs::args)=some (r,outs):=by obtain⟨gm,h0,aR,h1,h2⟩:=k;simp only[jJ,Hk]at h1;subst h1;obtain⟨⟨e,s⟩,ZL,h9⟩:=XT h2 hs;subst hr hn hz hk;show q4 C (den C nn) kf f _=_;unfold q4;simp only[he,hf,hb,di,if_true];unfold BF;simp only[ho];rw[if_pos ⟨Ha hl',Ha hN⟩,hdf];simp only[if_true];have e0:yf fn.ntmps args hl=⟨fn.ntmps,cS (fun _=> .aF) (vE 0 args),jw hl⟩:=by{unfold yf;congr 1;funext t;rw[LI];simp};rw[e0,h0];simp only[AC];rw[ZL];simp only[AC];rcases h9 with⟨h3,UD,al,vs,i1,i2,Cj,h4,h5,h6,h7,h8⟩|⟨v,h3,rfl,h4⟩;·{have cz:sR C fn (hl.map (·.1)) (lg (C.qZ f) s)=some (r,outs):=by{simp only at Cj;rw[Cj];unfold sR;simp only[h4,h5,h6,h7,if_true];rw[<-h8];congr 2;cases vs with|nil=>(rfl)|cons a l=>cases l<;>rfl};rcases h3 with h3|h3;·{simp only at h3;subst h3;exact cz};·simp only at h3;subst h3;exact cz};·simp only at h3 h4;subst h3;simp only[fe,pI,AC,h4,Do]
end
end Go.Ab
