import Derived.Test.YtbbhbdlljfffdaaGreatDoorAbV7
open Bool renaming and_eq_true->Hb,false_eq_true->Hd
open List renaming filter->GE,filter_cons_of_neg->Hk,filter_cons_of_pos->Hm
open Nat renaming ble->GT,le_of_ble_eq_true->Ha
open Option renaming bind_some->AC,map_some->Do
open Option.some renaming injEq->Hc
set_option linter.all false
namespace Go.Ab
open Go
/-! ### Maps as lists of pairs -/
section
variable{K V:Type}
end
class aph{K:Type}(vj:K->Value)(kind:outParam TypeDesc)(eq:outParam (K->K->Bool)):Prop where same:∀a b,Instr.sameNow kind (vj a) (vj b)=some (eq a b)sc:∀a,eS (vj a)=true
section
variable{K V:Type}{vj:K->Value}{ev:V->Value}{kind:TypeDesc}{eq:K->K->Bool}
end
class apj(C:aE)(T:TypeId)(kind:outParam TypeDesc)(z:outParam Value):Prop where mt:CD C T=some (kind,z)
section
variable{C:aE}{f:FuncId}{call:FuncId->List U->Option (U×List U)}{S:ai}{g:Bool}
variable{d:Nat}{ty:TypeId}{pos:String}{bg:Array Edge}{bM:Option (Nat×Bool)}{x y z:Operand}{T:TypeId}
variable{K V:Type}{vj:K->Value}{ev:V->Value}{kind:TypeDesc}{eq:K->K->Bool}{dQ:V}{l:List (K×V)}{k:K}{v:V}{id:Id}
end
open Go
inductive Q5(σ b7:Type)where|go(s:σ)|ret(t:b7)|ex(t:b7)
def Q5.on{σ b7 ρ:Type}(aiK:σ->Option ρ)(Cz aiE:b7->Option ρ):Q5 σ b7->Option ρ| .go s=>aiK s| .ret s=>Cz s| .ex s=>aiE s
section
variable{C:aE}{f:FuncId}{call:gF}{S:ai}{Q:Exit×ai->Prop}{assign body:Code}{α σ b7 ρ:Type}{r:ρ}{rep:σ->ai}{mc:b7->ai}{enc:α->List U}{aqW:Operand}{ps:Array Tmp}{j:Nat}
end
section
variable{C:aE}{f:FuncId}{call:gF}{c:Code}{Q:Exit×ai->Prop}{n:Nat}{t t2:Nat->U}{h:Id->Option (Option Rows)}{l:List Nat}{vs:List U}{zs:List (Nat×U)}
end
open Go
section
variable{C:aE}{f:FuncId}{call:gF}{S:ai}{g:Bool}{d:Nat}{ty:TypeId}{pos:String}{bg:Array Edge}{bM:Option (Nat×Bool)}
end
open Go
section
variable{n:Nat}{t:Nat->U}{h L:Id->Option (Option Rows)}
/-! ### Opened, frozen -/
theorem aH{p s row off:Nat}{id:Id}{r r':List U}{x:Id×Option Rows}{wr:List (Id×Option Rows)}(hs:t s= .mp id row off:=by exact rfl)(hid:h id=some (some [r]):=by exact rfl)(hu:bV [p,s] 0 r=(r',x::wr):=by exact Bc)(NI:Nat.blt s n=true:=by exact rfl)(hf:fresh h (x::wr)=true:=by exact rfl):s0 p ⟨n,t,h⟩ s=some ⟨n,t,bl h ((id,some [r'])::x::wr)⟩:=alb hs hid hu NI hf
theorem V3{p s row off:Nat}{id:Id}{r r':List U}(hs:t s= .mp id row off:=by exact rfl)(hid:h id=some (some [r]):=by exact rfl)(hu:bV [p,s] 0 r=(r',[]):=by exact Bc):s0 p ⟨n,t,h⟩ s=some ⟨n,t,h⟩:=by unfold s0;simp only[hs,hid,hu,List.isEmpty_nil,if_true]
def aiB:U->Bool| .rs _ _ _| .cB| .mr _=>true|_=>false
theorem EY{s:Nat}{v v':U}{ids:List Id}{wr:List (Id×Option Rows)}(hl:aiB (t s)=true:=by exact rfl)(hp:pk h 9 (t s)=some (v,ids):=by exact n4)(hf:ey v=v':=by exact EX)(hn:dV ids=true:=by exact rfl)(hw:(ids.map fun i=>(i,none))=wr:=by exact spine):o9 ⟨n,t,h⟩ s=some ⟨n,au t s v',bl h wr⟩:=by have e:qk ⟨n,t,h⟩ s=some ⟨n,au t s v',bl h wr⟩:=by{subst hf hw;simp only[qk,hp,hn,if_true]};rw[<-e];cases hts:t s<;>rw[hts]at hl<;>first|(unfold o9;simp only[hts];done)|cases hl
theorem afH{s:Nat}(hl:t s= .cB:=by exact rfl):o9 ⟨n,t,h⟩ s=some ⟨n,au t s (.sl []),h⟩:=by simp only[o9,hl,qk,pk,dV,if_true];rfl
/-! ### Names of what arguments lead to -/
def U2:U->Bool| .fn _ as cs=> !(as.isEmpty&&cs.isEmpty)| .rs _ _ _=>true| .mp _ _ _=>true| .mr _=>true| .agg _=>true|_=>false
variable{m j:Nat}{b:Bool}{p i:Id}{acc acc' qc y l:List (Id×Id)}{a:U}{as cs eO:List U}
theorem Sn(hx:eO=[])(e:acc=y):eE L m b p j acc eO=y:=by subst hx;cases m<;>exact e
theorem ac3(hx:eO=a::as)(hs:U2 a=false)(k:eE L m b p (j+1) acc as=y):eE L (m+1) b p j acc eO=y:=by subst hx;cases a with|fn f xs cs=>(simp only[U2,Bool.not_eq_false',Hb,List.isEmpty_iff]at hs;obtain⟨rfl,rfl⟩:=hs;have e:eE L m true (j::p) 0 acc ([]++[])=acc:=by{cases m<;>rfl};simp only[eE,e];exact k)|_=>first|exact k|cases hs
theorem ac1{o q:Nat}(hx:eO= .rs i o q::as)(hn:(!b||(hG acc i).isSome)=false)(hl:acc++[(i,j::p)]=acc')(k:eE L m b p (j+1) acc' as=y):eE L (m+1) b p j acc eO=y:=by subst hx hl;simp only[eE,hn];exact k
theorem ac2{o q:Nat}(hx:eO= .rs i o q::as)(hn:(!b||(hG acc i).isSome)=true)(k:eE L m b p (j+1) acc as=y):eE L (m+1) b p j acc eO=y:=by subst hx;simp only[eE,hn];exact k
theorem acZ{o q:Nat}(hx:eO= .mp i o q::as)(hn:(hG acc i).isSome=false)(hh:L i=some (some [cs]))(hl:acc++[(i,j::p)]=acc')(h1:eE L m false (j::p) 0 acc' cs=qc)(k:eE L m b p (j+1) qc as=y):eE L (m+1) b p j acc eO=y:=by subst hx hl h1;simp only[eE,hn,hh];exact k
theorem ac0{o q:Nat}(hx:eO= .mp i o q::as)(hn:(hG acc i).isSome=true)(k:eE L m b p (j+1) acc as=y):eE L (m+1) b p j acc eO=y:=by subst hx;simp only[eE,hn];exact k
theorem acX(hx:eO= .agg cs::as)(h1:eE L m b (j::p) 0 acc cs=qc)(k:eE L m b p (j+1) qc as=y):eE L (m+1) b p j acc eO=y:=by subst hx h1;simp only[eE];exact k
theorem acY{f:Fn}{xs:List U}(hx:eO= .fn f xs cs::as)(h1:eE L m true (j::p) 0 acc (xs++cs)=qc)(k:eE L m b p (j+1) qc as=y):eE L (m+1) b p j acc eO=y:=by subst hx h1;simp only[eE];exact k
theorem LL(k:eE L m b p j acc eO=y:=by(repeat'(first|((with_reducible apply Sn);(with_reducible exact rfl);exact rfl)|((with_reducible apply ac3);exact rfl;first|exact rfl|exact arQ|exact arR)|((with_reducible apply ac1);exact rfl;exact rfl;exact spine)|((with_reducible apply ac2);exact rfl;exact rfl)|((with_reducible apply apY);exact rfl;exact rfl;exact spine)|((with_reducible apply apZ);exact rfl;exact rfl)|((with_reducible apply ac0);exact rfl;exact rfl)|((with_reducible apply acZ);exact rfl;exact rfl;exact rfl;exact spine)|((with_reducible apply acX);exact rfl)|((with_reducible apply acY);exact rfl)|(apply Sn;exact rfl;exact rfl)));first|done|fail):eE L m b p j acc eO=y:=k
/-! ### The objects that go -/
variable{o k:Id}{r l':List (Id×Id)}{rows x1 bA:Rows}{i1 i2 gone ids:List Id}{obs outs:List U}{keep:Id->Bool}{back:List (Id×Option Rows)}
theorem adH(hf:e4 rows=true):o6 L keep rows=some (rows,[]):=by simp only[o6,hf,if_true]
theorem adI(hf:e4 rows=false)(hc:fR (mS L keep) rows=some (bA,ids)):o6 L keep rows=some (bA,ids):=by simp[o6,hf,hc]
theorem SA{y:Option (Rows×List Id)}(k:o6 L keep rows=y:=by(repeat'(first|(apply adH;first|exact xo _|exact rfl|exact L9)|(apply ap5;exact rfl;exact rfl;(first|(with_reducible assumption)|assumption);exact inferInstance;rotate_left;exact rfl)|(apply adI;exact rfl)|exact Tj|(apply Tl;exact rfl)|exact adG|(apply Sz;exact rfl)|exact LH|exact LI|exact Si|exact LJ|(apply Sk;exact rfl;exact rfl;exact n4)|(apply LK;exact rfl;exact rfl;exact n4)|(apply Sj;exact rfl;exact rfl;exact n4)|(apply Ep;first|exact rfl|exact Tb|exact Te|exact Tc)|exact Sh|exact EP|(apply EO;exact rfl)));first|done|fail):o6 L keep rows=y:=k
theorem akq:jm L l []=some ([],[]):=rfl
theorem akp(h:L o=some (some rows))(hc:o6 L (vU l) rows=some (x1,i1))(hr:oa l x1=some bA)(hy:jm L l r=some (obs,gone)):jm L l ((o,k)::r)=some (.aP k bA::obs,i1++gone):=by simp[jm,h,hc,hr,hy]
theorem OO{y:Option (List U×List Id)}(k:jm L l r=y:=by(repeat'(first|exact akq|(apply akp;exact rfl;exact SA;(first|exact Py|exact Pz|exact PA))));first|done|fail):jm L l r=y:=k
theorem abZ:jv l' [] []=some []:=rfl
theorem abX(hr:oa l' rows=some bA)(hy:jv l' r outs=some back):jv l' ((o,k)::r) (.aP k rows::outs)=some ((o,some bA)::back):=by simp[jv,hr,hy]
theorem abY(hy:jv l' r outs=some back):jv l' ((o,k)::r) (.aU::outs)=some ((o,none)::back):=by simp[jv,hy]
theorem ac6:iU L []=[]:=rfl
theorem ac5{x:Id×Option Rows}{iH:List (Id×Option Rows)}(hs:tg L x=true)(k:iU L iH=back):iU L (x::iH)=back:=by unfold iU at*;rw[Hk (by simp[hs])];exact k
theorem ac4{x:Id×Option Rows}{iH:List (Id×Option Rows)}(hs:tg L x=false)(k:iU L iH=back):iU L (x::iH)=x::back:=by unfold iU at*;rw[Hm (by simp[hs]),k]
theorem an9{α:Type}{c:α->List U}[hc:qN c]{q:List α}:tg L (o,some (q.map c))=false:=by cases h:tg L (o,some (q.map c))with|false=>(rfl)|true=>exfalso;unfold tg at h;split at h;·{rename_i h1 h2;simp only[Hc]at h2;have:e4 (q.map c)=true:=xo q;rw[h2]at this;simp[e4,dF,flat]at this};·cases h
theorem LN{iH:List (Id×Option Rows)}{y:List (Id×Option Rows)}(k:iU L iH=y:=by(repeat'(first|exact ac6|(apply ac5;exact rfl)|(apply ac4;first|exact an9|exact rfl)));first|done|fail):iU L iH=y:=k
theorem Lx{y:Option (List (Id×Option Rows))}(k:jv l' r outs=y:=by(repeat'(first|exact abZ|(apply abX;(first|exact Py|exact Pz|exact PA))|apply abY));first|done|fail):jv l' r outs=y:=k
/-! Values under other names -/
theorem am3(hf:flat a=true):fD l a=a:=by cases a with|agg cs=>(simp only[flat]at hf;simp[fD,GM hf])|aI cs=>(simp only[flat]at hf;simp[fD,GM hf])|fn f as cs=>(simp only[flat,Hb]at hf;simp[fD,GM hf.1,GM hf.2])|rs _ _ _=>(simp[flat]at hf)|mp _ _ _=>(simp[flat]at hf)|mr _=>(simp[flat]at hf)|dR _ _=>(simp[flat]at hf)|cB=>(simp[flat]at hf)|_=>simp only[fD,yy,Dd];rw[if_pos hf]
theorem aeE(hf:dF cs=true):flat (.agg cs)=true:=hf
theorem aeN(hf:dF cs=true):flat (.aI cs)=true:=hf
theorem aeG{α:Type}{c:α->List U}{x:α}[hc:qN c]:dF (c x)=true:=hc.fl x
theorem Mc{a:U}(k:flat a=true:=by(repeat'(first|exact rfl|exact aeF|exact aeJ|exact Td|(with_reducible apply aeE)|(with_reducible apply aeN)|exact aeG|exact aeI|(apply Ta;exact rfl)));first|done|fail):flat a=true:=k
theorem PK{a':U}(k:fD l a=a':=by first|(refine am3 ?_;exact Mc)|exact rfl):fD l a=a':=k
theorem amQ(hx:eO=[]:=by exact rfl):eO.map (fD l)=[]:=by subst hx;rfl
theorem amP{a':U}{bs:List U}(hx:eO=a::as)(h:fD l a=a')(k:as.map (fD l)=bs):eO.map (fD l)=a'::bs:=by subst hx h k;rfl
theorem PJ{bs:List U}(k:eO.map (fD l)=bs:=by(repeat'(first|exact amQ|(apply amP;exact rfl;exact PK)));first|done|fail):eO.map (fD l)=bs:=k
end
section
variable{C:aE}{f:FuncId}{call:gF}{S:ai}{g:Bool}{d:Nat}{ty:TypeId}{pos:String}{bg:Array Edge}{bM:Option (Nat×Bool)}
variable{cD:Operand}{ts:Array TypeId}{ef:FuncId}{as bs args uD obs outs Az asY:List U}{l:List (Id×Id)}{gone:List Id}{r v v':U}{back BD nG wr:List (Id×Option Rows)}{xs:Array Operand}
theorem SS{d':Option Tmp}(hfo:un g (S.get C cD)= .fn (.func ef) as bs)(ec:C.iY ef=true):bP C f call S g ⟨d', .call ⟨.value cD,xs,ts⟩,ty,pos,bg,bM⟩=qX C f call S ⟨d', .call ⟨.value cD,xs,ts⟩,ty,pos,bg,bM⟩ ef (as++(xs.toList.map fun x=>un g (S.get C x))++bs):=by show(match mz C (un g (S.get C cD))with|some x=>qX C f call S _ x.1 (x.2.1++(xs.toList.map fun x=>un g (S.get C x))++x.2.2)|none=>_)=_;have:mz C (un g (S.get C cD))=some (ef,as,bs):=by{rw[hfo];simp[mz,ec]};rw[this]
theorem Sf(hc:call ef (.aI obs::uD)=some (r,outs))(hfo:un g (S.get C cD)= .fn (.func ef) as bs)(ec:C.iY ef=true)(ha:as++(xs.toList.map fun x=>un g (S.get C x))++bs=args)(hl:eE S.h 60 true [jj] 0 [] args=l)(ho:jm S.h l l=some (obs,gone))(vK:args.map (fD l)=uD)(sH:(dV (l.map (·.1))&&dV (l.map (·.2))&&(l.all fun x=>jT x.2)&&dV gone&&tO gone (l.map (·.1)))=true)(hb:jv (l.map fun x=>(x.2,x.1)) l outs=some back)(hp:Cr r=false)(hv:fD (l.map fun x=>(x.2,x.1)) (if fA C f (some d)then(if flat r then ey r else .aU)else r)=v)(hi:imp [d] v=(v',nG))(hf:fresh S.h nG=true)(hw:nG++(iU S.h back++gone.map fun i=>(i,none))=wr):bP C f call S g ⟨some d, .call ⟨.value cD,xs,ts⟩,ty,pos,bg,bM⟩=some ⟨[(d,v')],l.map (·.1),wr⟩:=by rw[SS hfo ec,ha];subst hw;have e:pe call S.h ef args=some ⟨r,l,back,gone⟩:=by{unfold pe BZ;rw[hl,ho];simp only[sH,if_true,vK,hc,hb,Do]};unfold qX;rw[e];simp only[AC,hp,Hd,if_false,jQ,hv,hi,hf,if_true];rfl
theorem dW(hc:call ef (.aI obs::uD)=some (r,outs)){rd:List Id}(hfo:un g (S.get C cD)= .fn (.func ef) as bs:=by exact rfl)(ec:C.iY ef=true:=by exact rfl)(ha:as++(xs.toList.map fun x=>un g (S.get C x))++bs=args:=by exact spine)(hl:eE S.h 60 true [jj] 0 [] args=l:=by exact LL)(ho:jm S.h l l=some (Az,gone):=by exact OO)(sM:Az=obs:=by exact rfl)(vK:args.map (fD l)=uD:=by exact PJ)(sH:(dV (l.map (·.1))&&dV (l.map (·.2))&&(l.all fun x=>jT x.2)&&dV gone&&tO gone (l.map (·.1)))=true:=by exact rfl)(hb:jv (l.map fun x=>(x.2,x.1)) l outs=some back:=by exact Lx)(hp:Cr r=false:=by exact rfl)(hz:(C.fX f).contains d=false:=by exact rfl)(hv:fD (l.map fun x=>(x.2,x.1)) r=v:=by exact PK)(hi:imp [d] v=(v',nG):=by exact Co)(hf:fresh S.h nG=true:=by exact rfl)(iJ:iU S.h back=BD:=by exact LN)(hw:nG++(BD++gone.map fun i=>(i,none))=wr:=by exact spine)(hrd:l.map (·.1)=rd:=by exact spine):bP C f call S g ⟨some d, .call ⟨.value cD,xs,ts⟩,ty,pos,bg,bM⟩=some ⟨[(d,v')],rd,wr⟩:=by subst hrd sM;exact Sf hc hfo ec ha hl ho vK sH hb hp (by simp only[fA,hz,Hd,if_false];exact hv) hi hf (by rw[iJ];exact hw)
theorem bf(hc:call ef (.aI obs::uD)=some (r,outs)){rd:List Id}{v0:U}(hfo:un g (S.get C cD)= .fn (.func ef) as bs:=by exact rfl)(ec:C.iY ef=true:=by exact rfl)(ha:as++(xs.toList.map fun x=>un g (S.get C x))++bs=args:=by exact spine)(hl:eE S.h 60 true [jj] 0 [] args=l:=by exact LL)(ho:jm S.h l l=some (Az,gone):=by exact OO)(sM:Az=obs:=by exact rfl)(vK:args.map (fD l)=uD:=by exact PJ)(sH:(dV (l.map (·.1))&&dV (l.map (·.2))&&(l.all fun x=>jT x.2)&&dV gone&&tO gone (l.map (·.1)))=true:=by exact rfl)(hb:jv (l.map fun x=>(x.2,x.1)) l outs=some back:=by exact Lx)(hp:Cr r=false:=by exact rfl)(hz:(C.fX f).contains d=true:=by exact rfl)(hfl:flat r=true:=by exact Mc)(hfz:ey r=v0:=by exact EX)(hv:fD (l.map fun x=>(x.2,x.1)) v0=v:=by exact PK)(hi:imp [d] v=(v',nG):=by exact Co)(hf:fresh S.h nG=true:=by exact rfl)(iJ:iU S.h back=BD:=by exact LN)(hw:nG++(BD++gone.map fun i=>(i,none))=wr:=by exact spine)(hrd:l.map (·.1)=rd:=by exact spine):bP C f call S g ⟨some d, .call ⟨.value cD,xs,ts⟩,ty,pos,bg,bM⟩=some ⟨[(d,v')],rd,wr⟩:=by subst hrd sM;exact Sf hc hfo ec ha hl ho vK sH hb hp (by simp only[fA,hz,if_true,hfl,hfz];exact hv) hi hf (by rw[iJ];exact hw)
theorem afQ{v:Value}(hc:call ef (.aI obs::uD)=some (.av v,outs))(ha:as++(xs.toList.map fun x=>un g (S.get C x))++bs=args)(hl:eE S.h 60 true [jj] 0 [] args=l)(ho:jm S.h l l=some (obs,gone))(vK:args.map (fD l)=uD)(sH:(dV (l.map (·.1))&&dV (l.map (·.2))&&(l.all fun x=>jT x.2)&&dV gone&&tO gone (l.map (·.1)))=true)(hb:jv (l.map fun x=>(x.2,x.1)) l outs=some back):pe call S.h ef (as++(xs.toList.map fun x=>un g (S.get C x))++bs)=some ⟨.av v,l,back,gone⟩:=by rw[ha];unfold pe BZ;rw[hl,ho];simp only[sH,if_true,vK,hc,hb,Do]
theorem aet{d':Option Tmp}(hfo:un g (S.get C cD)= .fn (.func ef) as bs)(ec:C.iY ef=true){v:Value}(lu:pe call S.h ef (as++(xs.toList.map fun x=>un g (S.get C x))++bs)=some ⟨.av v,l,back,gone⟩):bP C f call S g ⟨d', .call ⟨.value cD,xs,ts⟩,ty,pos,bg,bM⟩=none:=by rw[SS hfo ec];unfold qX;rw[lu];rfl
theorem cy{Z:List eI->p9->Prop}{K:List eI->ai->Prop}{m:Option (List Nat)}{ops:Array Oper}{i:Nat}{lo:List Oper}{ks:List eI}{v:Value}{d':Option Tmp}(hc:call ef (.aI obs::uD)=some (.av v,outs)){rd:List Id}(k:Z ks ⟨i,lo,S,v,⟨[],rd,wr⟩⟩)(hfo:un true (S.get C cD)= .fn (.func ef) as bs:=by exact rfl)(ec:C.iY ef=true:=by exact rfl)(ha:as++(xs.toList.map fun x=>un true (S.get C x))++bs=args:=by exact spine)(hl:eE S.h 60 true [jj] 0 [] args=l:=by exact LL)(ho:jm S.h l l=some (Az,gone):=by exact OO)(sM:Az=obs:=by exact rfl)(vK:args.map (fD l)=uD:=by exact PJ)(sH:(dV (l.map (·.1))&&dV (l.map (·.2))&&(l.all fun x=>jT x.2)&&dV gone&&tO gone (l.map (·.1)))=true:=by exact rfl)(hb:jv (l.map fun x=>(x.2,x.1)) l outs=some back:=by exact Lx)(iJ:iU S.h back=BD:=by exact LN)(hw:BD++gone.map (fun i=>(i,none))=wr:=by exact spine)(hrd:l.map (·.1)=rd:=by exact spine)(hm:m=none:=by exact rfl):eN C f call ops m i (⟨d', .call ⟨.value cD,xs,ts⟩,ty,pos,bg,none⟩::lo) ks S K Z:=by subst hrd sM iJ hw;have lu:=afQ (g:=true) hc ha hl ho vK sH hb;refine Ww (aet hfo ec lu) ?_ k hm;have ag3:mz C (un true (S.get C cD))=some (ef,as,bs):=by{rw[hfo];simp[mz,ec]};simp only[pP,ql,ag3,Eo,lu,AC]
theorem Pa{Z:List eI->p9->Prop}{K:List eI->ai->Prop}{m:Option (List Nat)}{ops:Array Oper}{i:Nat}{lo:List Oper}{ks:List eI}{x:Operand}{tt:TypeId}{v:Value}{d':Option Tmp}(k:Z ks ⟨i,lo,S, .iface tt v,⟨[],[],[]⟩⟩)(hx:un true (S.get C x)= .val (.iface tt v):=by exact rfl)(hm:m=none:=by exact rfl):eN C f call ops m i (⟨d', .panic x,ty,pos,bg,none⟩::lo) ks S K Z:=by refine Ww rfl ?_ k hm;simp only[pP,ql,hx]
end
/-! ### Functions -/
def yR:Nat->List U->List (Nat×U)|_,[]=>[]|i,p::ps=>(i,p)::yR (i+1) ps
theorem Qj:∀(ps:List U)(i t:Nat),dL (fun _=> .aU) (yR i ps) t=if t<i then .aU else ps.getD (t-i) .aU|[],i,t=>by{simp[yR,dL]}|p::ps,i,t=>by simp only[yR,dL,au];by_cases e:t=i;·{subst e;simp};·rw[if_neg e,Qj ps (i+1) t];by_cases h1:t<i;·{rw[if_pos h1,if_pos (by omega)]};·rw[if_neg h1,if_neg (by omega),show t-i=(t-(i+1))+1 by omega];rfl
def oW(C:aE)(f:FuncId)(rv:List ResultVar)(ks:List Id)(r:U)(outs:List U)(x:Exit×ai):Prop:=((x.1= .ret∨x.1= .normal)∧∃S al vs i1 i2,ni (C.tP f) x.2=S∧(ks.filter fun k=>lB (S.h k))=al∧ny C S (ov S.h fun i=>al.contains i) rv=some (vs,i1)∧lF S.h (fun i=>al.contains i) ks=some (outs,i2)∧dV (al++(i1++i2))=true∧x8 vs=r)∨∃v,x.1=fL v∧r= .av v∧BU ks (ni (C.BN f) x.2)=some outs
section
variable{C:aE}{f:FuncId}{S:ai}{rv:List ResultVar}{ks al:List Id}{vs outs outs' cs cs':List U}{ids is i1 i2:List Id}{r v v' x:U}{p:U->Option (U×List Id)}{L:Id->Option (Option Rows)}{keep:Id->Bool}{rows bA:Rows}{k:Id}{T:TypeId}
theorem amV:ny C S p []=some ([],[]):=rfl
theorem amX{t:Nat}(h:p (un true (S.t t))=some (v,ids))(hr:ny C S p rv=some (vs,is)):ny C S p (.tmp t::rv)=some (v::vs,ids++is):=by show(yA C S p (.tmp t)).bind _=_;simp only[yA,h,AC,hr,Do]
theorem amW{a m:Nat}{id:Id}{bb:Bool}{r:List U}[ha:eD C T bb m](hx:un true (S.t a)= .mp id 0 0)(hh:S.h id=some (some [r]))(hl:GT m r.length=true)(hv:kn bb (r.take m)=some v)(h:p v=some (v',ids))(hr:ny C S p rv=some (vs,is)):ny C S p (.cell a T::rv)=some (v'::vs,id::ids++is):=by show(yA C S p (.cell a T)).bind _=_;have hl':0+m<=r.length:=by{have:=Ha hl;omega};simp only[yA,ha.mm,ha.sz,hx,hh,List.getElem?_cons_zero,if_pos hl',List.drop_zero,hv,AC,h,hr,Do]
theorem Sq:∀{cs:List U},dF cs=true->fc (iV L keep) cs=some (cs,[])|[],_=>rfl|c::cs,h=>by simp only[dF,Hb]at h;simp only[fc,Ep h.1,AC,Sq h.2,Do];rfl
theorem adN(hf:flat x=true):ov L keep x=some (x,[]):=by cases x with|agg cs=>(simp only[flat]at hf;simp only[ov,Sq hf,Do])|_=>exact Ep (h:=L) (keep:=keep) hf
theorem adL(hx:x= .agg cs:=by exact rfl)(h:fc (iV L keep) cs=some (cs',ids)):ov L keep x=some (.agg cs',ids):=by subst hx;simp only[ov,h,Do]
def isAgg:U->Bool| .agg _=>true|_=>false
theorem adR(hx:isAgg x=false)(h:iV L keep x=some (v,ids)):ov L keep x=some (v,ids):=by cases x<;>first|exact h|cases hx
theorem LV{y:Option (U×List Id)}(k:ov L keep x=y:=by(repeat'(first|(refine adN ?_;exact Mc)|(apply adL;exact rfl)|(apply adR;exact rfl)|exact LH|exact LI|exact Si|exact LJ|(apply Sk;exact rfl;exact rfl;exact n4)|(apply LK;exact rfl;exact rfl;exact n4)|(apply Sj;exact rfl;exact rfl;exact n4)|(apply Ep;first|exact rfl|exact Tb|exact Te|exact Tc)|exact Sh|exact EP|(apply EO;exact rfl)));first|done|fail):ov L keep x=y:=k
theorem W5{y:Option (List U×List Id)}(h:ny C S (ov L keep) rv=y:=by repeat'(first|with_reducible exact amV|((with_reducible apply amX);exact LV)|((with_reducible apply amW);exact rfl;exact rfl;exact rfl;(first|exact JQ|exact On rfl);exact LV)|((with_reducible apply as8);exact rfl;exact rfl;(first|exact JQ|exact On rfl);exact LV))):ny C S (ov L keep) rv=y:=h
theorem akl:lF L keep []=some ([],[]):=rfl
theorem akj(h:L k=some (some rows))(hc:o6 L keep rows=some (bA,i1))(hy:lF L keep ks=some (outs,i2)):lF L keep (k::ks)=some (.aP k bA::outs,i1++i2):=by simp[lF,h,hc,hy]
theorem akk(h:lB (L k)=false)(hy:lF L keep ks=some (outs,i2)):lF L keep (k::ks)=some (.aU::outs,i2):=by unfold lF;split;·{rename_i rows e;rw[e]at h;cases h};·rw[hy];rfl
theorem OL{y:Option (List U×List Id)}(h:lF L keep ks=y:=by(repeat'(first|exact akl|(apply akj;exact rfl;exact SA)|(apply akk;exact rfl)));first|done|fail):lF L keep ks=y:=h
theorem aeH{p:Id->Bool}:GE p []=([]:List Id):=rfl
theorem aeM{p:Id->Bool}{k:Id}{ks al:List Id}(h:p k=true)(hy:GE p ks=al):GE p (k::ks)=k::al:=by rw[Hm h,hy]
theorem aeO{p:Id->Bool}{k:Id}{ks al:List Id}(h:p k=false)(hy:GE p ks=al):GE p (k::ks)=al:=by rw[Hk (by simp[h]),hy]
theorem Md{p:Id->Bool}{y:List Id}(h:GE p ks=y:=by(repeat'(first|exact aeH|(apply aeM;exact rfl)|(apply aeO;exact rfl)));first|done|fail):GE p ks=y:=h
theorem aiP{S:ai}{l:List Id}(hl:l=[]:=by exact rfl):ni l S=S:=by subst hl;rfl
theorem aiQ{n:Nat}{t:Nat->U}{h:Id->Option (Option Rows)}{l l2:List Id}(hl:l=l2:=by exact spine):ni l ⟨n,t,h⟩=⟨n,t,bl h (l2.map fun i=>(i,none))⟩:=by subst hl;rfl
theorem N6{S S':ai}{l:List Id}(k:ni l S=S':=by first|exact aiP|exact aiQ):ni l S=S':=k
theorem dA{ig:ai}(hk:ni (C.tP f) ig=S:=by exact N6)(ha:(ks.filter fun k=>lB (S.h k))=al:=by exact Md)(h:ny C S (ov S.h fun i=>al.contains i) rv=some (vs,i1):=by exact W5)(ho:lF S.h (fun i=>al.contains i) ks=some (outs',i2):=by exact OL)(sM:outs'=outs:=by exact rfl)(hn:dV (al++(i1++i2))=true:=by exact rfl)(hr:x8 vs=r:=by exact rfl):oW C f rv ks r outs (.ret,ig):=by subst sM;exact .inl ⟨.inl rfl,S,al,vs,i1,i2,hk,ha,h,ho,hn,hr⟩
theorem I1{ig:ai}(hk:ni (C.tP f) ig=S:=by exact N6)(ha:(ks.filter fun k=>lB (S.h k))=al:=by exact Md)(h:ny C S (ov S.h fun i=>al.contains i) rv=some (vs,i1):=by exact W5)(ho:lF S.h (fun i=>al.contains i) ks=some (outs',i2):=by exact OL)(sM:outs'=outs:=by exact rfl)(hn:dV (al++(i1++i2))=true:=by exact rfl)(hr:x8 vs=r:=by exact rfl):oW C f rv ks r outs (.normal,ig):=by subst sM;exact .inl ⟨.inr rfl,S,al,vs,i1,i2,hk,ha,h,ho,hn,hr⟩
theorem cA{ig:ai}{v:Value}(hk:ni (C.BN f) ig=S:=by exact N6)(ha:(ks.filter fun k=>lB (S.h k))=al:=by exact Md)(ho:lF S.h (fun i=>al.contains i) ks=some (outs',i2):=by exact OL)(sM:outs'=outs:=by exact rfl)(hn:dV (al++i2)=true:=by exact rfl)(hr:r=U.av v:=by exact rfl):oW C f rv ks r outs (fL v,ig):=by subst sM ha hk;refine .inr ⟨v,rfl,hr, ?_⟩;unfold BU;simp only[ho,hn,if_true]
theorem fW{fn:Func}{c:Code}{obs args:List U}{hl:List (Id×Rows)}{zs:List (Nat×U)}{nn N:Nat}(hf:C.P.funcs[f]? =some fn)(hn:fn.ntmps=N)(hr:fn.results.toList=rv)(k:nH jj (C.jI f jj) [] (fun ig=>W C f (den C nn) c ig (oW C f rv ks r outs)) ⟨N,dL (fun _=> .aU) zs,kQ hl⟩)(hb:fn.body=some c:=by exact rfl)(he:C.ext f=none:=by exact rfl)(ec:C.iY f=true:=by exact rfl)(hl':GT args.length N=true:=by exact rfl)(hN:GT N jj=true:=by exact rfl)(ho:x5 obs=some hl:=by exact rfl)(hz:yR 0 args=zs:=by exact spine)(hk:hl.map (·.1)=ks:=by exact spine)(hdf:BK C f c=false:=by exact rfl):den C (nn+1) f (.aI obs::args)=some (r,outs):=by obtain⟨ig,h0,bK,h1,⟨e,s⟩,h2,h9⟩:=k;simp only[kM,Hc]at h1;subst h1;subst hn hz hk;show tR C (den C nn) lV f _=_;unfold tR;simp only[he,hf,hb,ec,if_true];unfold EE;simp only[ho];rw[if_pos ⟨Ha hl',Ha hN⟩,hdf];simp only[Hd,if_false];have e0:A7 fn.ntmps args hl=⟨fn.ntmps,dL (fun _=> .aU) (yR 0 args),kQ hl⟩:=by{unfold A7;congr 1;funext t;rw[Qj];simp};rw[e0,h0];simp only[AC,h2];rcases h9 with⟨h3,aaq,al,vs,i1,i2,Fs,h4,h5,h6,h7,h8⟩|⟨v,h3,rfl,h4⟩;·{subst hr;have cL:vr C fn (hl.map (·.1)) (ni (C.tP f) s)=some (r,outs):=by{simp only at Fs;rw[Fs];unfold vr;simp only[h4,h5,h6,h7,if_true];rw[<-h8];congr 2;cases vs with|nil=>(rfl)|cons a l=>cases l<;>rfl};rcases h3 with h3|h3;·{simp only at h3;subst h3;exact cL};·simp only at h3;subst h3;exact cL};·simp only at h3 h4;subst h3;simp only[fL,rG,AC,h4,Do]
end
open Go
theorem afE{n s:Nat}{t:Nat->U}{h:Id->Option (Option Rows)}{rows:Rows}(hs:t s= .sl rows:=by exact rfl):o9 ⟨n,t,h⟩ s=some ⟨n,t,h⟩:=by unfold o9;simp only[hs]
section
variable{C:aE}{f:FuncId}{call:gF}{S:ai}{g:Bool}{d:Nat}{t ty:TypeId}{pos:String}{bg:Array Edge}{bM:Option (Nat×Bool)}{x:Operand}
def sy(l:List ByteArray):U:= .sl (l.map fun s=>[.val (.string s)])
theorem VF{α:Type}{c:α->U}{T:TypeId}{y:Operand}{k:IntKind}{e:TypeId}{m len:Nat}{bb:Bool}{i:Int}{r:α}{q:List α}(hi:idx q i=some r)[hu:eP C T (.array len e)][hs:eD C e bb m](hx:un g (S.get C x)= .bx (q.map c):=by exact rfl)(hy:un g (S.get C y)= .val (.int k i):=by first|exact rfl|exact cH)(hm:m=1:=by exact rfl)(hl:q.length=len:=by exact rfl):bP C f call S g ⟨some d, .indexAddr T x y,ty,pos,bg,bM⟩=some ⟨[(d, .bx (c r::(q.map c).drop (i.toNat+1)))],[],[]⟩:=by show qg C S _ T (un g (S.get C x)) (e5 (un g (S.get C y)))=_;have hb:=NV hi;have hn:=rf hi;subst hm hl;have hlt:i.toNat<q.length:=by{omega};have e1:(q.map c).drop (i.toNat*1)=c r::(q.map c).drop (i.toNat+1):=by{have:q[i.toNat]=r:=by{rw[List.getElem?_eq_getElem hlt]at hn;simpa using hn};rw[Nat.mul_one,List.drop_eq_getElem_cons (by simpa using hlt)];simp[this]};simp only[hx,hy,e5,qg,hu.ul,hs.sz];rw[if_pos ⟨hb.1,hb.2,by simp;omega⟩,e1];rfl
end
open Go
inductive an(α β:Type)where|ok(a:α)|av(v:Value)(b:β)
def an.on{α β γ:Type}(p:Value->β->Option γ)(k:α->Option γ):an α β->Option γ| .ok a=>k a| .av v b=>p v b
theorem cv{α β γ:Type}{x:Option (an α β)}{p:Value->β->Option γ}{k:α->Option γ}{r:γ}{G:Prop}(hF:x.bind (an.on p k)=some r)(h1:∀v b,x=some (.av v b)->p v b=some r->G)(h2:∀a,x=some (.ok a)->k a=some r->G):G:=by cases x with|none=>(cases hF)|some y=>cases y with|ok a=>(exact h2 a rfl hF)|av v b=>exact h1 v b rfl hF
theorem amR{S:ai}:(Exit.ret,S).1≠ .normal:=by simp
theorem jo{v:Value}{S:ai}:(fL v,S).1≠ .normal:=by simp[fL]
theorem zw{C:aE}{f:FuncId}{rv:List ResultVar}{ks:List Id}{r:U}{outs:List U}{x:Exit×ai}(hne:x.1≠ .normal)(h:oW C f rv ks r outs x):x.1= .ret∨∃v,x.1=fL v:=by rcases h with⟨h|h,_⟩|⟨v,h,_⟩;·{exact .inl h};·{exact absurd h hne};·exact .inr ⟨v,h⟩
class KX(C:aE)(t:TypeId):Prop where Ov:(match C.P.underlying t with|some (.interface _)=>false|some _=>true|none=>false)=true
section
variable{C:aE}{f:FuncId}{call:gF}{S:ai}{g:Bool}{d:Nat}{t ty:TypeId}{pos:String}{bg:Array Edge}{bM:Option (Nat×Bool)}{x:Operand}
theorem aeq [hi:KX C t]{o:Oper}{a:U}{v:Value}(hv:nE a=some v)(hs:eS (.iface t v)=true):sr C o t a=ret o (.val (.iface t v)):=by have h:=hi.Ov;unfold sr;split at h;·{cases h};·{rename_i h1 h2;rw[h2];cases he:C.P.underlying t<;>simp_all};·cases h
theorem OF{cs:List U}{vs:List Value}[hi:KX C t](hx:un g (S.get C x)= .agg cs:=by first|exact rfl|exact cH)(hv:jL cs=some vs:=by exact rfl)(hs:vs.all GQ=true:=by exact rfl):bP C f call S g ⟨some d, .makeInterface t x,ty,pos,bg,bM⟩=some ⟨[(d, .val (.iface t (.agg ⟨vs⟩)))],[],[]⟩:=by show sr C _ t (un g (S.get C x))=_;rw[hx,aeq (v:= .agg ⟨vs⟩) (by simp only[nE,hv,Do]) hs];rfl
end
open Go
section
variable{C:aE}{f:FuncId}{call:gF}{S:ai}{A b c:Code}{o0 o1:Oper}{d:Nat}{Q:Exit×ai->Prop}
def Bp(C:aE)(d:Nat)(Q:Exit×ai->Prop)(x:Exit×ai):Prop:=∃y,wA C d x=some y∧Q y
theorem Kk(h:Q (.ret,S)):Bp C d Q (.ret,S):=⟨_,rfl,h⟩
theorem Kj{v:Value}{k:FuncId}{xs cs:List U}{g:Value->List U->List U->ai->Option ai}{S':ai}(hd:S.t d= .fn (.func k) xs cs)(hg:g v xs cs S=some S')(h:Q (.ret,S'))(hk:C.qC k=some g:=by exact rfl):Bp C d Q (fL v,S):=⟨(.ret,S'),by simp only[fL,wA,rG,AC,hd,hk,hg,Do],h⟩
def DV(C:aE)(f:FuncId)(call:gF)(o0 o1:Oper)(d:Nat)(b:Code)(Q:Exit×ai->Prop)(x:Exit×ai):Prop:=match x.1 with| .normal=>eN C f call #[o0,o1] none 0 [o0] [] x.2 (fun _ bK=>∃k xs cs,bK.t d= .fn (.func k) xs cs∧C.pI k=true∧W C f call b bK (Bp C d Q)) Av|_=>Q x
theorem Wz(h:eN C f call #[o0,o1] none 0 [o0] [] S (fun _ bK=>∃k xs cs,bK.t d= .fn (.func k) xs cs∧C.pI k=true∧W C f call b bK (Bp C d Q)) Av):DV C f call o0 o1 d b Q (.normal,S):=h
theorem WA(h:Q (.ret,S)):DV C f call o0 o1 d b Q (.ret,S):=h
theorem Vw{ks:List eI}{i:Nat}{ops:Array Oper}{m:Option (List Nat)}{k:FuncId}{xs cs:List U}(h:W C f call b S (Bp C d Q))(hd:S.t d= .fn (.func k) xs cs:=by exact rfl)(hk:C.pI k=true:=by exact rfl):eN C f call ops m i [] ks S (fun _ bK=>∃k xs cs,bK.t d= .fn (.func k) xs cs∧C.pI k=true∧W C f call b bK (Bp C d Q)) Av:=nl ⟨k,xs,cs,hd,hk,h⟩
theorem adZ(k:W C f call A S (DV C f call o0 o1 d b Q))(hs:wF C f c=some (A,o0,o1,d,b)):∃x,qh C f call lV c S=some x∧Q x:=by obtain⟨⟨x,bK⟩,h1,h2⟩:=k;rw[aev c hs,h1];simp only[AC];cases x with|normal=>(unfold DV at h2;simp only at h2;obtain⟨⟨bW,ks⟩,h3,k,xs,cs,h4,h5,⟨y,T⟩,h6,z,h7,h8⟩:=Bn h2;refine⟨z, ?_,h8⟩;simp only[IN,h3,AC];simp only at h4;rw[h4];simp only[h5,if_true,h6,AC];exact h7)|_=>exact⟨_,rfl,h2⟩
theorem Ti{rv:List ResultVar}{ks:List Id}{r:U}{outs:List U}{fn:Func}{obs args:List U}{hl:List (Id×Rows)}{zs:List (Nat×U)}{nn N:Nat}(hf:C.P.funcs[f]? =some fn)(hn:fn.ntmps=N)(hr:fn.results.toList=rv)(k:nH jj (C.jI f jj) [] (fun ig=>W C f (den C nn) A ig (DV C f (den C nn) o0 o1 d b (oW C f rv ks r outs))) ⟨N,dL (fun _=> .aU) zs,kQ hl⟩)(hb:fn.body=some c:=by exact rfl)(he:C.ext f=none:=by exact rfl)(ec:C.iY f=true:=by exact rfl)(hl':GT args.length N=true:=by exact rfl)(hN:GT N jj=true:=by exact rfl)(ho:x5 obs=some hl:=by exact rfl)(hz:yR 0 args=zs:=by exact spine)(hk:hl.map (·.1)=ks:=by exact spine)(hs:wF C f c=some (A,o0,o1,d,b):=by exact rfl)(hdf:BK C f c=true:=by exact rfl):den C (nn+1) f (.aI obs::args)=some (r,outs):=by obtain⟨ig,h0,bK,h1,h2⟩:=k;simp only[kM,Hc]at h1;subst h1;obtain⟨⟨e,s⟩,af3,h9⟩:=adZ h2 hs;subst hr hn hz hk;show tR C (den C nn) lV f _=_;unfold tR;simp only[he,hf,hb,ec,if_true];unfold EE;simp only[ho];rw[if_pos ⟨Ha hl',Ha hN⟩,hdf];simp only[if_true];have e0:A7 fn.ntmps args hl=⟨fn.ntmps,dL (fun _=> .aU) (yR 0 args),kQ hl⟩:=by{unfold A7;congr 1;funext t;rw[Qj];simp};rw[e0,h0];simp only[AC];rw[af3];simp only[AC];rcases h9 with⟨h3,aaq,al,vs,i1,i2,Fs,h4,h5,h6,h7,h8⟩|⟨v,h3,rfl,h4⟩;·{have cL:vr C fn (hl.map (·.1)) (ni (C.tP f) s)=some (r,outs):=by{simp only at Fs;rw[Fs];unfold vr;simp only[h4,h5,h6,h7,if_true];rw[<-h8];congr 2;cases vs with|nil=>(rfl)|cons a l=>cases l<;>rfl};rcases h3 with h3|h3;·{simp only at h3;subst h3;exact cL};·simp only at h3;subst h3;exact cL};·simp only at h3 h4;subst h3;simp only[fL,rG,AC,h4,Do]
end
end Go.Ab
