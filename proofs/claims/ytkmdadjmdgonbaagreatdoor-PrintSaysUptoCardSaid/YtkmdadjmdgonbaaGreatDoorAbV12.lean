import Derived.Test.YtkmdadjmdgonbaaGreatDoorAbV7
open Bool renaming and_eq_true->A1,false_eq_true->GT
open List renaming filter->AC,filter_cons_of_pos->Do
open Nat renaming le_of_ble_eq_true->Ha
open Option renaming bind_some->A0,map_some->GE
set_option linter.all false
namespace Go.Ab
open Go
/-! ### Maps as lists of pairs -/
section
variable{K V:Type}
end
class aif{K:Type}(B3:K->Value)(kind:outParam TypeDesc)(eq:outParam (K->K->Bool)):Prop where same:∀a b,Instr.sameNow kind (B3 a) (B3 b)=some (eq a b)sc:∀a,fZ (B3 a)=true
section
variable{K V:Type}{B3:K->Value}{ev:V->Value}{kind:TypeDesc}{eq:K->K->Bool}
end
class aii(C:aC)(T:TypeId)(kind:outParam TypeDesc)(z:outParam Value):Prop where mt:nL C T=some (kind,z)
section
variable{C:aC}{f:FuncId}{call:FuncId->List U->Option (U×List U)}{S:ah}{g:Bool}
variable{d:Nat}{ty:TypeId}{pos:String}{bl:Array Edge}{bO:Option (Nat×Bool)}{x y z:Operand}{T:TypeId}
variable{K V:Type}{B3:K->Value}{ev:V->Value}{kind:TypeDesc}{eq:K->K->Bool}{c9:V}{l:List (K×V)}{k:K}{v:V}{id:Id}
end
open Go
inductive ail(σ bU:Type)where|go(s:σ)|ret(t:bU)|ex(t:bU)
section
variable{C:aC}{f:FuncId}{call:gG}{S:ah}{Q:Exit×ah->Prop}{assign body:Code}{α σ bU ρ:Type}{r:ρ}{rep:σ->ah}{kq:bU->ah}{enc:α->List U}{aj5:Operand}{ps:Array Tmp}{j:Nat}
end
section
variable{C:aC}{f:FuncId}{call:gG}{c:Code}{Q:Exit×ah->Prop}{n:Nat}{t t2:Nat->U}{h:Id->Option (Option Rows)}{l:List Nat}{vs:List U}{zs:List (Nat×U)}
end
open Go
section
variable{C:aC}{f:FuncId}{call:gG}{S:ah}{g:Bool}{d:Nat}{ty:TypeId}{pos:String}{bl:Array Edge}{bO:Option (Nat×Bool)}
end
open Go
section
variable{n:Nat}{t:Nat->U}{h L:Id->Option (Option Rows)}
/-! ### Opened, frozen -/
theorem bq{p s row off:Nat}{id:Id}{r r':List U}{x:Id×Option Rows}{wr:List (Id×Option Rows)}(hs:t s= .mp id row off:=by exact rfl)(hid:h id=some (some [r]):=by exact rfl)(hu:bR [p,s] 0 r=(r',x::wr):=by exact EF)(Km:Nat.blt s n=true:=by exact rfl)(hf:fresh h (x::wr)=true:=by exact rfl):tC p ⟨n,t,h⟩ s=some ⟨n,t,bu h ((id,some [r'])::x::wr)⟩:=aeA hs hid hu Km hf
/-! ### Names of what arguments lead to -/
def Qs:U->Bool| .fn _ as cs=> !(as.isEmpty&&cs.isEmpty)| .rs _ _ _=>true| .mp _ _ _=>true| .mr _=>true| .agg _=>true|_=>false
variable{m j:Nat}{b:Bool}{p i:Id}{acc acc' qd y l:List (Id×Id)}{a:U}{as cs eK:List U}
theorem NS(hx:eK=[])(e:acc=y):eo L m b p j acc eK=y:=by subst hx;cases m<;>exact e
theorem XE(hx:eK=a::as)(hs:Qs a=false)(k:eo L m b p (j+1) acc as=y):eo L (m+1) b p j acc eK=y:=by subst hx;cases a with|fn f xs cs=>(simp only[Qs,Bool.not_eq_false',A1,List.isEmpty_iff]at hs;obtain⟨rfl,rfl⟩:=hs;have e:eo L m true (j::p) 0 acc ([]++[])=acc:=by{cases m<;>rfl};simp only[eo,e];exact k)|_=>first|exact k|cases hs
theorem XD{o q:Nat}(hx:eK= .rs i o q::as)(hn:(!b||(gC acc i).isSome)=true)(k:eo L m b p (j+1) acc as=y):eo L (m+1) b p j acc eK=y:=by subst hx;simp only[eo,hn];exact k
theorem XB{o q:Nat}(hx:eK= .mp i o q::as)(hn:(gC acc i).isSome=false)(hh:L i=some (some [cs]))(hl:acc++[(i,j::p)]=acc')(h1:eo L m false (j::p) 0 acc' cs=qd)(k:eo L m b p (j+1) qd as=y):eo L (m+1) b p j acc eK=y:=by subst hx hl h1;simp only[eo,hn,hh];exact k
theorem XC{o q:Nat}(hx:eK= .mp i o q::as)(hn:(gC acc i).isSome=true)(k:eo L m b p (j+1) acc as=y):eo L (m+1) b p j acc eK=y:=by subst hx;simp only[eo,hn];exact k
theorem Xz(hx:eK= .agg cs::as)(h1:eo L m b (j::p) 0 acc cs=qd)(k:eo L m b p (j+1) qd as=y):eo L (m+1) b p j acc eK=y:=by subst hx h1;simp only[eo];exact k
theorem XA{f:Fn}{xs:List U}(hx:eK= .fn f xs cs::as)(h1:eo L m true (j::p) 0 acc (xs++cs)=qd)(k:eo L m b p (j+1) qd as=y):eo L (m+1) b p j acc eK=y:=by subst hx h1;simp only[eo];exact k
theorem XF(k:eo L m b p j acc eK=y:=by(repeat'(first|((with_reducible apply NS);(with_reducible exact rfl);exact rfl)|((with_reducible apply XE);exact rfl;first|exact rfl|exact akQ|exact akR)|((with_reducible apply ai1);exact rfl;exact rfl;exact spine)|((with_reducible apply XD);exact rfl;exact rfl)|((with_reducible apply aiZ);exact rfl;exact rfl;exact spine)|((with_reducible apply ai0);exact rfl;exact rfl)|((with_reducible apply XC);exact rfl;exact rfl)|((with_reducible apply XB);exact rfl;exact rfl;exact rfl;exact spine)|((with_reducible apply Xz);exact rfl)|((with_reducible apply XA);exact rfl)|(apply NS;exact rfl;exact rfl)));first|done|fail):eo L m b p j acc eK=y:=k
/-! ### The objects that go -/
variable{o k:Id}{r l':List (Id×Id)}{rows x1 bB:Rows}{i1 i2 gone ids:List Id}{obs outs:List U}{keep:Id->Bool}{back:List (Id×Option Rows)}
theorem Yg(hf:eY rows=false)(hc:fk (kZ L keep) rows=some (bB,ids)):o3 L keep rows=some (bB,ids):=by simp[o3,hf,hc]
theorem N7{y:Option (Rows×List Id)}(k:o3 L keep rows=y:=by(repeat'(first|(apply ai7;first|exact Cd _|exact rfl|exact I7)|(apply ai8;exact rfl;exact rfl;(first|(with_reducible assumption)|assumption);exact inferInstance;rotate_left;exact rfl)|(apply Yg;exact rfl)|exact OP|(apply OQ;exact rfl)|exact Yf|(apply N4;exact rfl)|exact NN|exact Xs|exact Xt|exact NO|(apply Xv;exact rfl;exact rfl;exact pP)|(apply NP;exact rfl;exact rfl;exact pP)|(apply Xu;exact rfl;exact rfl;exact pP)|(apply NM;first|exact rfl|exact Y8|exact Ze|exact Zc)|exact Xr|exact FM|(apply FL;exact rfl)));first|done|fail):o3 L keep rows=y:=k
theorem adQ:iV L l []=some ([],[]):=rfl
theorem adP(h:L o=some (some rows))(hc:o3 L (tu l) rows=some (x1,i1))(hr:mG l x1=some bB)(hy:iV L l r=some (obs,gone)):iV L l ((o,k)::r)=some (.cC k bB::obs,i1++gone):=by simp[iV,h,hc,hr,hy]
theorem adR{y:Option (List U×List Id)}(k:iV L l r=y:=by(repeat'(first|exact adQ|(apply adP;exact rfl;exact N7;(first|exact L0|exact L1|exact L2))));first|done|fail):iV L l r=y:=k
theorem WG:j4 l' [] []=some []:=rfl
theorem WE(hr:mG l' rows=some bB)(hy:j4 l' r outs=some back):j4 l' ((o,k)::r) (.cC k rows::outs)=some ((o,some bB)::back):=by simp[j4,hr,hy]
theorem XH:jd L []=[]:=rfl
theorem XG{x:Id×Option Rows}{bk:List (Id×Option Rows)}(hs:yz L x=false)(k:jd L bk=back):jd L (x::bk)=x::back:=by unfold jd at*;rw[Do (by simp[hs]),k]
theorem XK{bk:List (Id×Option Rows)}{y:List (Id×Option Rows)}(k:jd L bk=y:=by(repeat'(first|exact XH|(apply ai2;exact rfl)|(apply XG;first|exact al8|exact rfl)));first|done|fail):jd L bk=y:=k
theorem WH{y:Option (List (Id×Option Rows))}(k:j4 l' r outs=y:=by(repeat'(first|exact WG|(apply WE;(first|exact L0|exact L1|exact L2))|apply aiy));first|done|fail):j4 l' r outs=y:=k
/-! Values under other names -/
theorem agu(hf:flat a=true):fN l a=a:=by cases a with|agg cs=>(simp only[flat]at hf;simp[fN,DW hf])|aV cs=>(simp only[flat]at hf;simp[fN,DW hf])|fn f as cs=>(simp only[flat,A1]at hf;simp[fN,DW hf.1,DW hf.2])|rs _ _ _=>(simp[flat]at hf)|mp _ _ _=>(simp[flat]at hf)|mr _=>(simp[flat]at hf)|dw _ _=>(simp[flat]at hf)|cG=>(simp[flat]at hf)|_=>simp only[fN,vu,AQ];rw[if_pos hf]
theorem ON{a:U}(k:flat a=true:=by(repeat'(first|exact rfl|exact Y9|exact Zf|exact Zd|(with_reducible apply ajE)|(with_reducible apply ajG)|exact ajF|exact Zb|(apply OK;exact rfl)));first|done|fail):flat a=true:=k
theorem Su{a':U}(k:fN l a=a':=by first|(refine agu ?_;exact ON)|exact rfl):fN l a=a':=k
theorem af7(hx:eK=[]:=by exact rfl):eK.map (fN l)=[]:=by subst hx;rfl
theorem af6{a':U}{bs:List U}(hx:eK=a::as)(h:fN l a=a')(k:as.map (fN l)=bs):eK.map (fN l)=a'::bs:=by subst hx h k;rfl
theorem agv{bs:List U}(k:eK.map (fN l)=bs:=by(repeat'(first|exact af7|(apply af6;exact rfl;exact Su)));first|done|fail):eK.map (fN l)=bs:=k
end
section
variable{C:aC}{f:FuncId}{call:gG}{S:ah}{g:Bool}{d:Nat}{ty:TypeId}{pos:String}{bl:Array Edge}{bO:Option (Nat×Bool)}
variable{cS:Operand}{ts:Array TypeId}{eE:FuncId}{as bs args G3 obs outs Lt alP:List U}{l:List (Id×Id)}{gone:List Id}{r v v':U}{back NB nW wr:List (Id×Option Rows)}{xs:Array Operand}
theorem YX{d':Option Tmp}(hfo:un g (S.get C cS)= .fn (.func eE) as bs)(ef:C.iT eE=true):bS C f call S g ⟨d', .call ⟨.value cS,xs,ts⟩,ty,pos,bl,bO⟩=qg C f call S ⟨d', .call ⟨.value cS,xs,ts⟩,ty,pos,bl,bO⟩ eE (as++(xs.toList.map fun x=>un g (S.get C x))++bs):=by show(match me C (un g (S.get C cS))with|some x=>qg C f call S _ x.1 (x.2.1++(xs.toList.map fun x=>un g (S.get C x))++x.2.2)|none=>_)=_;have:me C (un g (S.get C cS))=some (eE,as,bs):=by{rw[hfo];simp[me,ef]};rw[this]
theorem Xn(hc:call eE (.aV obs::G3)=some (r,outs))(hfo:un g (S.get C cS)= .fn (.func eE) as bs)(ef:C.iT eE=true)(ha:as++(xs.toList.map fun x=>un g (S.get C x))++bs=args)(hl:eo S.h 60 true [jU] 0 [] args=l)(ho:iV S.h l l=some (obs,gone))(Ki:args.map (fN l)=G3)(Cz:(eF (l.map (·.1))&&eF (l.map (·.2))&&(l.all fun x=>jT x.2)&&eF gone&&wo gone (l.map (·.1)))=true)(hb:j4 (l.map fun x=>(x.2,x.1)) l outs=some back)(hp:C4 r=false)(hv:fN (l.map fun x=>(x.2,x.1)) (if fM C f (some d)then(if flat r then dN r else .bD)else r)=v)(hi:imp [d] v=(v',nW))(hf:fresh S.h nW=true)(hw:nW++(jd S.h back++gone.map fun i=>(i,none))=wr):bS C f call S g ⟨some d, .call ⟨.value cS,xs,ts⟩,ty,pos,bl,bO⟩=some ⟨[(d,v')],l.map (·.1),wr⟩:=by rw[YX hfo ef,ha];subst hw;have e:qo call S.h eE args=some ⟨r,l,back,gone⟩:=by{unfold qo Ck;rw[hl,ho];simp only[Cz,if_true,Ki,hc,hb,GE]};unfold qg;rw[e];simp only[A0,hp,GT,if_false,jf,hv,hi,hf,if_true];rfl
theorem bH(hc:call eE (.aV obs::G3)=some (r,outs)){rd:List Id}{v0:U}(hfo:un g (S.get C cS)= .fn (.func eE) as bs:=by exact rfl)(ef:C.iT eE=true:=by exact rfl)(ha:as++(xs.toList.map fun x=>un g (S.get C x))++bs=args:=by exact spine)(hl:eo S.h 60 true [jU] 0 [] args=l:=by exact XF)(ho:iV S.h l l=some (Lt,gone):=by exact adR)(CL:Lt=obs:=by exact rfl)(Ki:args.map (fN l)=G3:=by exact agv)(Cz:(eF (l.map (·.1))&&eF (l.map (·.2))&&(l.all fun x=>jT x.2)&&eF gone&&wo gone (l.map (·.1)))=true:=by exact rfl)(hb:j4 (l.map fun x=>(x.2,x.1)) l outs=some back:=by exact WH)(hp:C4 r=false:=by exact rfl)(hz:(C.gx f).contains d=true:=by exact rfl)(hfl:flat r=true:=by exact ON)(hfz:dN r=v0:=by exact FQ)(hv:fN (l.map fun x=>(x.2,x.1)) v0=v:=by exact Su)(hi:imp [d] v=(v',nW):=by exact C1)(hf:fresh S.h nW=true:=by exact rfl)(iG:jd S.h back=NB:=by exact XK)(hw:nW++(NB++gone.map fun i=>(i,none))=wr:=by exact spine)(hrd:l.map (·.1)=rd:=by exact spine):bS C f call S g ⟨some d, .call ⟨.value cS,xs,ts⟩,ty,pos,bl,bO⟩=some ⟨[(d,v')],rd,wr⟩:=by subst hrd CL;exact Xn hc hfo ef ha hl ho Ki Cz hb hp (by simp only[fM,hz,if_true,hfl,hfz];exact hv) hi hf (by rw[iG];exact hw)
end
/-! ### Functions -/
def Bo:Nat->List U->List (Nat×U)|_,[]=>[]|i,p::ps=>(i,p)::Bo (i+1) ps
theorem Tr:∀(ps:List U)(i t:Nat),dn (fun _=> .bD) (Bo i ps) t=if t<i then .bD else ps.getD (t-i) .bD|[],i,t=>by{simp[Bo,dn]}|p::ps,i,t=>by simp only[Bo,dn,ax];by_cases e:t=i;·{subst e;simp};·rw[if_neg e,Tr ps (i+1) t];by_cases h1:t<i;·{rw[if_pos h1,if_pos (by omega)]};·rw[if_neg h1,if_neg (by omega),show t-i=(t-(i+1))+1 by omega];rfl
def HG(C:aC)(f:FuncId)(rv:List ResultVar)(ks:List Id)(r:U)(outs:List U)(x:Exit×ah):Prop:=((x.1= .ret∨x.1= .normal)∧∃S al vs i1 i2,nK (C.sE f) x.2=S∧(ks.filter fun k=>kJ (S.h k))=al∧oF C S (uu S.h fun i=>al.contains i) rv=some (vs,i1)∧mB S.h (fun i=>al.contains i) ks=some (outs,i2)∧eF (al++(i1++i2))=true∧GP vs=r)∨∃v,x.1=nP v∧r= .ox v∧Cc ks (nK (C.B2 f) x.2)=some outs
section
variable{C:aC}{f:FuncId}{S:ah}{rv:List ResultVar}{ks al:List Id}{vs outs outs' cs cs':List U}{ids is i1 i2:List Id}{r v v' x:U}{p:U->Option (U×List Id)}{L:Id->Option (Option Rows)}{keep:Id->Bool}{rows bB:Rows}{k:Id}{T:TypeId}
theorem agh:oF C S p []=some ([],[]):=rfl
def isAgg:U->Bool| .agg _=>true|_=>false
theorem Sg{y:Option (List U×List Id)}(h:oF C S (uu L keep) rv=y:=by repeat'(first|with_reducible exact agh|((with_reducible apply al0);exact Oc)|((with_reducible apply alZ);exact rfl;exact rfl;exact rfl;(first|exact Gx|exact K1 rfl);exact Oc)|((with_reducible apply al1);exact rfl;exact rfl;(first|exact Gx|exact K1 rfl);exact Oc))):oF C S (uu L keep) rv=y:=h
theorem adL:mB L keep []=some ([],[]):=rfl
theorem adK(h:L k=some (some rows))(hc:o3 L keep rows=some (bB,i1))(hy:mB L keep ks=some (outs,i2)):mB L keep (k::ks)=some (.cC k bB::outs,i1++i2):=by simp[mB,h,hc,hy]
theorem Q8{y:Option (List U×List Id)}(h:mB L keep ks=y:=by(repeat'(first|exact adL|(apply adK;exact rfl;exact N7)|(apply akX;exact rfl)));first|done|fail):mB L keep ks=y:=h
theorem Za{p:Id->Bool}:AC p []=([]:List Id):=rfl
theorem Zi{p:Id->Bool}{k:Id}{ks al:List Id}(h:p k=true)(hy:AC p ks=al):AC p (k::ks)=k::al:=by rw[Do h,hy]
theorem OO{p:Id->Bool}{y:List Id}(h:AC p ks=y:=by(repeat'(first|exact Za|(apply Zi;exact rfl)|(apply ajH;exact rfl)));first|done|fail):AC p ks=y:=h
theorem acv{S:ah}{l:List Id}(hl:l=[]:=by exact rfl):nK l S=S:=by subst hl;rfl
theorem Qm{S S':ah}{l:List Id}(k:nK l S=S':=by first|exact acv|exact akK):nK l S=S':=k
theorem sR{l7:ah}(hk:nK (C.sE f) l7=S:=by exact Qm)(ha:(ks.filter fun k=>kJ (S.h k))=al:=by exact OO)(h:oF C S (uu S.h fun i=>al.contains i) rv=some (vs,i1):=by exact Sg)(ho:mB S.h (fun i=>al.contains i) ks=some (outs',i2):=by exact Q8)(CL:outs'=outs:=by exact rfl)(hn:eF (al++(i1++i2))=true:=by exact rfl)(hr:GP vs=r:=by exact rfl):HG C f rv ks r outs (.ret,l7):=by subst CL;exact .inl ⟨.inl rfl,S,al,vs,i1,i2,hk,ha,h,ho,hn,hr⟩
theorem fm{l7:ah}(hk:nK (C.sE f) l7=S:=by exact Qm)(ha:(ks.filter fun k=>kJ (S.h k))=al:=by exact OO)(h:oF C S (uu S.h fun i=>al.contains i) rv=some (vs,i1):=by exact Sg)(ho:mB S.h (fun i=>al.contains i) ks=some (outs',i2):=by exact Q8)(CL:outs'=outs:=by exact rfl)(hn:eF (al++(i1++i2))=true:=by exact rfl)(hr:GP vs=r:=by exact rfl):HG C f rv ks r outs (.normal,l7):=by subst CL;exact .inl ⟨.inr rfl,S,al,vs,i1,i2,hk,ha,h,ho,hn,hr⟩
theorem nF{fn:Func}{c:Code}{obs args:List U}{hl:List (Id×Rows)}{zs:List (Nat×U)}{nn N:Nat}(hf:C.P.funcs[f]? =some fn)(hn:fn.ntmps=N)(hr:fn.results.toList=rv)(k:qX jU (C.kR f jU) [] (fun l7=>W C f (den C nn) c l7 (HG C f rv ks r outs)) ⟨N,dn (fun _=> .bD) zs,kf hl⟩)(hb:fn.body=some c:=by exact rfl)(he:C.ext f=none:=by exact rfl)(ef:C.iT f=true:=by exact rfl)(hl':Nat.ble args.length N=true:=by exact rfl)(hN:Nat.ble N jU=true:=by exact rfl)(ho:xY obs=some hl:=by exact rfl)(hz:Bo 0 args=zs:=by exact spine)(hk:hl.map (·.1)=ks:=by exact spine)(hdf:BY C f c=false:=by exact rfl):den C (nn+1) f (.aV obs::args)=some (r,outs):=by obtain⟨l7,h0,bG,h1,⟨e,s⟩,h2,h9⟩:=k;simp only[kE,Option.some.injEq]at h1;subst h1;subst hn hz hk;show uy C (den C nn) mu f _=_;unfold uy;simp only[he,hf,hb,ef,if_true];unfold FF;simp only[ho];rw[if_pos ⟨Ha hl',Ha hN⟩,hdf];simp only[GT,if_false];have e0:Ed fn.ntmps args hl=⟨fn.ntmps,dn (fun _=> .bD) (Bo 0 args),kf hl⟩:=by{unfold Ed;congr 1;funext t;rw[Tr];simp};rw[e0,h0];simp only[A0,h2];rcases h9 with⟨h3,aim,al,vs,i1,i2,Px,h4,h5,h6,h7,h8⟩|⟨v,h3,rfl,h4⟩;·{subst hr;have dB:wC C fn (hl.map (·.1)) (nK (C.sE f) s)=some (r,outs):=by{simp only at Px;rw[Px];unfold wC;simp only[h4,h5,h6,h7,if_true];rw[<-h8];congr 2;cases vs with|nil=>(rfl)|cons a l=>cases l<;>rfl};rcases h3 with h3|h3;·{simp only at h3;subst h3;exact dB};·simp only at h3;subst h3;exact dB};·simp only at h3 h4;subst h3;simp only[nP,rT,A0,h4,GE]
end
open Go
section
variable{C:aC}{f:FuncId}{call:gG}{S:ah}{g:Bool}{d:Nat}{t ty:TypeId}{pos:String}{bl:Array Edge}{bO:Option (Nat×Bool)}{x:Operand}
def FR(l:List ByteArray):U:= .sl (l.map fun s=>[.val (.string s)])
end
open Go
class aik(C:aC)(t:TypeId):Prop where ade:(match C.P.underlying t with|some (.interface _)=>false|some _=>true|none=>false)=true
section
variable{C:aC}{f:FuncId}{call:gG}{S:ah}{g:Bool}{d:Nat}{t ty:TypeId}{pos:String}{bl:Array Edge}{bO:Option (Nat×Bool)}{x:Operand}
end
open Go
section
variable{C:aC}{f:FuncId}{call:gG}{S:ah}{A b c:Code}{o0 o1:Oper}{d:Nat}{Q:Exit×ah->Prop}
end
end Go.Ab
