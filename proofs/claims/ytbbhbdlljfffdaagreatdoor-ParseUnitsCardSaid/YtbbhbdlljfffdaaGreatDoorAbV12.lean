import Derived.Test.YtbbhbdlljfffdaaGreatDoorAbV7
open Bool renaming and_eq_true->Hb,false_eq_true->Hd
open List renaming filter->GE,filter_cons_of_neg->Hk,filter_cons_of_pos->Hm
open Nat renaming ble->GT,le_of_ble_eq_true->Ha
open Option renaming bind_some->AC,map_some->Do
open Option.some renaming injEq->Hc
set_option linter.all false
namespace Go.Ab
open Go
/-! ### Maps as lists of pairs -/
section
variable{K V:Type}
end
class amx{K:Type}(D7:K->Value)(kind:outParam TypeDesc)(eq:outParam (K->K->Bool)):Prop where same:∀a b,Instr.sameNow kind (D7 a) (D7 b)=some (eq a b)sc:∀a,gN (D7 a)=true
section
variable{K V:Type}{D7:K->Value}{ev:V->Value}{kind:TypeDesc}{eq:K->K->Bool}
end
class amz(C:aF)(T:TypeId)(kind:outParam TypeDesc)(z:outParam Value):Prop where mt:pE C T=some (kind,z)
section
variable{C:aF}{f:FuncId}{call:FuncId->List U->Option (U×List U)}{S:aj}{g:Bool}
variable{d:Nat}{ty:TypeId}{pos:String}{bt:Array Edge}{bS:Option (Nat×Bool)}{x y z:Operand}{T:TypeId}
variable{K V:Type}{D7:K->Value}{ev:V->Value}{kind:TypeDesc}{eq:K->K->Bool}{dW:V}{l:List (K×V)}{k:K}{v:V}{id:Id}
end
open Go
inductive Po(σ cv:Type)where|go(s:σ)|ret(t:cv)|ex(t:cv)
def Po.on{σ cv ρ:Type}(agr:σ->Option ρ)(Cp agl:cv->Option ρ):Po σ cv->Option ρ| .go s=>agr s| .ret s=>Cp s| .ex s=>agl s
section
variable{C:aF}{f:FuncId}{call:gK}{S:aj}{Q:Exit×aj->Prop}{assign body:Code}{α σ cv ρ:Type}{r:ρ}{rep:σ->aj}{me:cv->aj}{enc:α->List U}{aoi:Operand}{ps:Array Tmp}{j:Nat}
end
section
variable{C:aF}{f:FuncId}{call:gK}{c:Code}{Q:Exit×aj->Prop}{n:Nat}{t t2:Nat->U}{h:Id->Option (Option Rows)}{l:List Nat}{vs:List U}{zs:List (Nat×U)}
end
open Go
section
variable{C:aF}{f:FuncId}{call:gK}{S:aj}{g:Bool}{d:Nat}{ty:TypeId}{pos:String}{bt:Array Edge}{bS:Option (Nat×Bool)}
end
open Go
section
variable{n:Nat}{t:Nat->U}{h L:Id->Option (Option Rows)}
/-! ### Opened, frozen -/
theorem aK{p s row off:Nat}{id:Id}{r r':List U}{x:Id×Option Rows}{wr:List (Id×Option Rows)}(hs:t s= .mp id row off:=by exact rfl)(hid:h id=some (some [r]):=by exact rfl)(hu:cc [p,s] 0 r=(r',x::wr):=by exact A2)(Ml:Nat.blt s n=true:=by exact rfl)(hf:fresh h (x::wr)=true:=by exact rfl):sG p ⟨n,t,h⟩ s=some ⟨n,t,bE h ((id,some [r'])::x::wr)⟩:=aiE hs hid hu Ml hf
theorem TS{p s row off:Nat}{id:Id}{r r':List U}(hs:t s= .mp id row off:=by exact rfl)(hid:h id=some (some [r]):=by exact rfl)(hu:cc [p,s] 0 r=(r',[]):=by exact A2):sG p ⟨n,t,h⟩ s=some ⟨n,t,h⟩:=by unfold sG;simp only[hs,hid,hu,List.isEmpty_nil,if_true]
def agd:U->Bool| .rs _ _ _| .cI| .mr _=>true|_=>false
theorem Ep{s:Nat}{v v':U}{ids:List Id}{wr:List (Id×Option Rows)}(hl:agd (t s)=true:=by exact rfl)(hp:pk h 9 (t s)=some (v,ids):=by exact nY)(hf:ey v=v':=by exact Eo)(hn:ei ids=true:=by exact rfl)(hw:(ids.map fun i=>(i,none))=wr:=by exact spine):o7 ⟨n,t,h⟩ s=some ⟨n,au t s v',bE h wr⟩:=by have e:p7 ⟨n,t,h⟩ s=some ⟨n,au t s v',bE h wr⟩:=by{subst hf hw;simp only[p7,hp,hn,if_true]};rw[<-e];cases hts:t s<;>rw[hts]at hl<;>first|(unfold o7;simp only[hts];done)|cases hl
theorem adp{s:Nat}(hl:t s= .cI:=by exact rfl):o7 ⟨n,t,h⟩ s=some ⟨n,au t s (.sl []),h⟩:=by simp only[o7,hl,p7,pk,ei,if_true];rfl
/-! ### Names of what arguments lead to -/
def SP:U->Bool| .fn _ as cs=> !(as.isEmpty&&cs.isEmpty)| .rs _ _ _=>true| .mp _ _ _=>true| .mr _=>true| .agg _=>true|_=>false
variable{m j:Nat}{b:Bool}{p i:Id}{acc acc' rQ y l:List (Id×Id)}{a:U}{as cs fh:List U}
theorem Qw(hx:fh=[])(e:acc=y):eF L m b p j acc fh=y:=by subst hx;cases m<;>exact e
theorem aaR(hx:fh=a::as)(hs:SP a=false)(k:eF L m b p (j+1) acc as=y):eF L (m+1) b p j acc fh=y:=by subst hx;cases a with|fn f xs cs=>(simp only[SP,Bool.not_eq_false',Hb,List.isEmpty_iff]at hs;obtain⟨rfl,rfl⟩:=hs;have e:eF L m true (j::p) 0 acc ([]++[])=acc:=by{cases m<;>rfl};simp only[eF,e];exact k)|_=>first|exact k|cases hs
theorem aaP{o q:Nat}(hx:fh= .rs i o q::as)(hn:(!b||(iu acc i).isSome)=false)(hl:acc++[(i,j::p)]=acc')(k:eF L m b p (j+1) acc' as=y):eF L (m+1) b p j acc fh=y:=by subst hx hl;simp only[eF,hn];exact k
theorem aaQ{o q:Nat}(hx:fh= .rs i o q::as)(hn:(!b||(iu acc i).isSome)=true)(k:eF L m b p (j+1) acc as=y):eF L (m+1) b p j acc fh=y:=by subst hx;simp only[eF,hn];exact k
theorem aaN{o q:Nat}(hx:fh= .mp i o q::as)(hn:(iu acc i).isSome=false)(hh:L i=some (some [cs]))(hl:acc++[(i,j::p)]=acc')(h1:eF L m false (j::p) 0 acc' cs=rQ)(k:eF L m b p (j+1) rQ as=y):eF L (m+1) b p j acc fh=y:=by subst hx hl h1;simp only[eF,hn,hh];exact k
theorem aaO{o q:Nat}(hx:fh= .mp i o q::as)(hn:(iu acc i).isSome=true)(k:eF L m b p (j+1) acc as=y):eF L (m+1) b p j acc fh=y:=by subst hx;simp only[eF,hn];exact k
theorem aaL(hx:fh= .agg cs::as)(h1:eF L m b (j::p) 0 acc cs=rQ)(k:eF L m b p (j+1) rQ as=y):eF L (m+1) b p j acc fh=y:=by subst hx h1;simp only[eF];exact k
theorem aaM{f:Fn}{xs:List U}(hx:fh= .fn f xs cs::as)(h1:eF L m true (j::p) 0 acc (xs++cs)=rQ)(k:eF L m b p (j+1) rQ as=y):eF L (m+1) b p j acc fh=y:=by subst hx h1;simp only[eF];exact k
theorem KA(k:eF L m b p j acc fh=y:=by(repeat'(first|((with_reducible apply Qw);(with_reducible exact rfl);exact rfl)|((with_reducible apply aaR);exact rfl;first|exact rfl|exact ao9|exact apa)|((with_reducible apply aaP);exact rfl;exact rfl;exact spine)|((with_reducible apply aaQ);exact rfl;exact rfl)|((with_reducible apply ane);exact rfl;exact rfl;exact spine)|((with_reducible apply anf);exact rfl;exact rfl)|((with_reducible apply aaO);exact rfl;exact rfl)|((with_reducible apply aaN);exact rfl;exact rfl;exact rfl;exact spine)|((with_reducible apply aaL);exact rfl)|((with_reducible apply aaM);exact rfl)|(apply Qw;exact rfl;exact rfl)));first|done|fail):eF L m b p j acc fh=y:=k
/-! ### The objects that go -/
variable{o k:Id}{r l':List (Id×Id)}{rows x1 bQ:Rows}{i1 i2 gone ids:List Id}{obs outs:List U}{keep:Id->Bool}{back:List (Id×Option Rows)}
theorem abr(hf:fy rows=true):o3 L keep rows=some (rows,[]):=by simp only[o3,hf,if_true]
theorem abt(hf:fy rows=false)(hc:fW (mX L keep) rows=some (bQ,ids)):o3 L keep rows=some (bQ,ids):=by simp[o3,hf,hc]
theorem QJ{y:Option (Rows×List Id)}(k:o3 L keep rows=y:=by(repeat'(first|(apply abr;first|exact wT _|exact rfl|exact KY)|(apply anl;exact rfl;exact rfl;(first|(with_reducible assumption)|assumption);exact inferInstance;rotate_left;exact rfl)|(apply abt;exact rfl)|exact Rk|(apply Rl;exact rfl)|exact abq|(apply QH;exact rfl)|exact Kw|exact Kx|exact Qq|exact Ky|(apply Qs;exact rfl;exact rfl;exact nY)|(apply Kz;exact rfl;exact rfl;exact nY)|(apply Qr;exact rfl;exact rfl;exact nY)|(apply DY;first|exact rfl|exact Rf|exact Ri|exact Rg)|exact Qp|exact Ej|(apply Ei;exact rfl)));first|done|fail):o3 L keep rows=y:=k
theorem ahS:jv L l []=some ([],[]):=rfl
theorem ahR(h:L o=some (some rows))(hc:o3 L (vo l) rows=some (x1,i1))(hr:n5 l x1=some bQ)(hy:jv L l r=some (obs,gone)):jv L l ((o,k)::r)=some (.aT k bQ::obs,i1++gone):=by simp[jv,h,hc,hr,hy]
theorem Nw{y:Option (List U×List Id)}(k:jv L l r=y:=by(repeat'(first|exact ahS|(apply ahR;exact rfl;exact QJ;(first|exact N3|exact N4|exact N5))));first|done|fail):jv L l r=y:=k
theorem ZW:jF l' [] []=some []:=rfl
theorem ZU(hr:n5 l' rows=some bQ)(hy:jF l' r outs=some back):jF l' ((o,k)::r) (.aT k rows::outs)=some ((o,some bQ)::back):=by simp[jF,hr,hy]
theorem ZV(hy:jF l' r outs=some back):jF l' ((o,k)::r) (.aW::outs)=some ((o,none)::back):=by simp[jF,hy]
theorem aaU:jf L []=[]:=rfl
theorem aaT{x:Id×Option Rows}{iS:List (Id×Option Rows)}(hs:sU L x=true)(k:jf L iS=back):jf L (x::iS)=back:=by unfold jf at*;rw[Hk (by simp[hs])];exact k
theorem aaS{x:Id×Option Rows}{iS:List (Id×Option Rows)}(hs:sU L x=false)(k:jf L iS=back):jf L (x::iS)=x::back:=by unfold jf at*;rw[Hm (by simp[hs]),k]
theorem alm{α:Type}{c:α->List U}[hc:qC c]{q:List α}:sU L (o,some (q.map c))=false:=by cases h:sU L (o,some (q.map c))with|false=>(rfl)|true=>exfalso;unfold sU at h;split at h;·{rename_i h1 h2;simp only[Hc]at h2;have:fy (q.map c)=true:=wT q;rw[h2]at this;simp[fy,dJ,flat]at this};·cases h
theorem KD{iS:List (Id×Option Rows)}{y:List (Id×Option Rows)}(k:jf L iS=y:=by(repeat'(first|exact aaU|(apply aaT;exact rfl)|(apply aaS;first|exact alm|exact rfl)));first|done|fail):jf L iS=y:=k
theorem Kn{y:Option (List (Id×Option Rows))}(k:jF l' r outs=y:=by(repeat'(first|exact ZW|(apply ZU;(first|exact N3|exact N4|exact N5))|apply ZV));first|done|fail):jF l' r outs=y:=k
/-! Values under other names -/
theorem akA(hf:flat a=true):fQ l a=a:=by cases a with|agg cs=>(simp only[flat]at hf;simp[fQ,F7 hf])|aL cs=>(simp only[flat]at hf;simp[fQ,F7 hf])|fn f as cs=>(simp only[flat,Hb]at hf;simp[fQ,F7 hf.1,F7 hf.2])|rs _ _ _=>(simp[flat]at hf)|mp _ _ _=>(simp[flat]at hf)|mr _=>(simp[flat]at hf)|dV _ _=>(simp[flat]at hf)|cI=>(simp[flat]at hf)|_=>simp only[fQ,x7,CU];rw[if_pos hf]
theorem acr(hf:dJ cs=true):flat (.agg cs)=true:=hf
theorem acC(hf:dJ cs=true):flat (.aL cs)=true:=hf
theorem acu{α:Type}{c:α->List U}{x:α}[hc:qC c]:dJ (c x)=true:=hc.fl x
theorem K2{a:U}(k:flat a=true:=by(repeat'(first|exact rfl|exact acs|exact acy|exact Rh|(with_reducible apply acr)|(with_reducible apply acC)|exact acu|exact acw|(apply Re;exact rfl)));first|done|fail):flat a=true:=k
theorem Og{a':U}(k:fQ l a=a':=by first|(refine akA ?_;exact K2)|exact rfl):fQ l a=a':=k
theorem akj(hx:fh=[]:=by exact rfl):fh.map (fQ l)=[]:=by subst hx;rfl
theorem aki{a':U}{bs:List U}(hx:fh=a::as)(h:fQ l a=a')(k:as.map (fQ l)=bs):fh.map (fQ l)=a'::bs:=by subst hx h k;rfl
theorem Of{bs:List U}(k:fh.map (fQ l)=bs:=by(repeat'(first|exact akj|(apply aki;exact rfl;exact Og)));first|done|fail):fh.map (fQ l)=bs:=k
end
section
variable{C:aF}{f:FuncId}{call:gK}{S:aj}{g:Bool}{d:Nat}{ty:TypeId}{pos:String}{bt:Array Edge}{bS:Option (Nat×Bool)}
variable{cW:Operand}{ts:Array TypeId}{en:FuncId}{as bs args ua obs outs Af aqd:List U}{l:List (Id×Id)}{gone:List Id}{r v v':U}{back Bv nH wr:List (Id×Option Rows)}{xs:Array Operand}
theorem Q1{d':Option Tmp}(hfo:un g (S.get C cW)= .fn (.func en) as bs)(ek:C.ji en=true):bU C f call S g ⟨d', .call ⟨.value cW,xs,ts⟩,ty,pos,bt,bS⟩=qL C f call S ⟨d', .call ⟨.value cW,xs,ts⟩,ty,pos,bt,bS⟩ en (as++(xs.toList.map fun x=>un g (S.get C x))++bs):=by show(match mE C (un g (S.get C cW))with|some x=>qL C f call S _ x.1 (x.2.1++(xs.toList.map fun x=>un g (S.get C x))++x.2.2)|none=>_)=_;have:mE C (un g (S.get C cW))=some (en,as,bs):=by{rw[hfo];simp[mE,ek]};rw[this]
theorem Qo(hc:call en (.aL obs::ua)=some (r,outs))(hfo:un g (S.get C cW)= .fn (.func en) as bs)(ek:C.ji en=true)(ha:as++(xs.toList.map fun x=>un g (S.get C x))++bs=args)(hl:eF S.h 60 true [ju] 0 [] args=l)(ho:jv S.h l l=some (obs,gone))(vb:args.map (fQ l)=ua)(si:(ei (l.map (·.1))&&ei (l.map (·.2))&&(l.all fun x=>kg x.2)&&ei gone&&tj gone (l.map (·.1)))=true)(hb:jF (l.map fun x=>(x.2,x.1)) l outs=some back)(hp:Ci r=false)(hv:fQ (l.map fun x=>(x.2,x.1)) (if fP C f (some d)then(if flat r then ey r else .aW)else r)=v)(hi:imp [d] v=(v',nH))(hf:fresh S.h nH=true)(hw:nH++(jf S.h back++gone.map fun i=>(i,none))=wr):bU C f call S g ⟨some d, .call ⟨.value cW,xs,ts⟩,ty,pos,bt,bS⟩=some ⟨[(d,v')],l.map (·.1),wr⟩:=by rw[Q1 hfo ek,ha];subst hw;have e:o8 call S.h en args=some ⟨r,l,back,gone⟩:=by{unfold o8 BS;rw[hl,ho];simp only[si,if_true,vb,hc,hb,Do]};unfold qL;rw[e];simp only[AC,hp,Hd,if_false,j9,hv,hi,hf,if_true];rfl
theorem ew(hc:call en (.aL obs::ua)=some (r,outs)){rd:List Id}(hfo:un g (S.get C cW)= .fn (.func en) as bs:=by exact rfl)(ek:C.ji en=true:=by exact rfl)(ha:as++(xs.toList.map fun x=>un g (S.get C x))++bs=args:=by exact spine)(hl:eF S.h 60 true [ju] 0 [] args=l:=by exact KA)(ho:jv S.h l l=some (Af,gone):=by exact Nw)(so:Af=obs:=by exact rfl)(vb:args.map (fQ l)=ua:=by exact Of)(si:(ei (l.map (·.1))&&ei (l.map (·.2))&&(l.all fun x=>kg x.2)&&ei gone&&tj gone (l.map (·.1)))=true:=by exact rfl)(hb:jF (l.map fun x=>(x.2,x.1)) l outs=some back:=by exact Kn)(hp:Ci r=false:=by exact rfl)(hz:(C.gd f).contains d=false:=by exact rfl)(hv:fQ (l.map fun x=>(x.2,x.1)) r=v:=by exact Og)(hi:imp [d] v=(v',nH):=by exact Cf)(hf:fresh S.h nH=true:=by exact rfl)(iV:jf S.h back=Bv:=by exact KD)(hw:nH++(Bv++gone.map fun i=>(i,none))=wr:=by exact spine)(hrd:l.map (·.1)=rd:=by exact spine):bU C f call S g ⟨some d, .call ⟨.value cW,xs,ts⟩,ty,pos,bt,bS⟩=some ⟨[(d,v')],rd,wr⟩:=by subst hrd so;exact Qo hc hfo ek ha hl ho vb si hb hp (by simp only[fP,hz,Hd,if_false];exact hv) hi hf (by rw[iV];exact hw)
theorem bu(hc:call en (.aL obs::ua)=some (r,outs)){rd:List Id}{v0:U}(hfo:un g (S.get C cW)= .fn (.func en) as bs:=by exact rfl)(ek:C.ji en=true:=by exact rfl)(ha:as++(xs.toList.map fun x=>un g (S.get C x))++bs=args:=by exact spine)(hl:eF S.h 60 true [ju] 0 [] args=l:=by exact KA)(ho:jv S.h l l=some (Af,gone):=by exact Nw)(so:Af=obs:=by exact rfl)(vb:args.map (fQ l)=ua:=by exact Of)(si:(ei (l.map (·.1))&&ei (l.map (·.2))&&(l.all fun x=>kg x.2)&&ei gone&&tj gone (l.map (·.1)))=true:=by exact rfl)(hb:jF (l.map fun x=>(x.2,x.1)) l outs=some back:=by exact Kn)(hp:Ci r=false:=by exact rfl)(hz:(C.gd f).contains d=true:=by exact rfl)(hfl:flat r=true:=by exact K2)(hfz:ey r=v0:=by exact Eo)(hv:fQ (l.map fun x=>(x.2,x.1)) v0=v:=by exact Og)(hi:imp [d] v=(v',nH):=by exact Cf)(hf:fresh S.h nH=true:=by exact rfl)(iV:jf S.h back=Bv:=by exact KD)(hw:nH++(Bv++gone.map fun i=>(i,none))=wr:=by exact spine)(hrd:l.map (·.1)=rd:=by exact spine):bU C f call S g ⟨some d, .call ⟨.value cW,xs,ts⟩,ty,pos,bt,bS⟩=some ⟨[(d,v')],rd,wr⟩:=by subst hrd so;exact Qo hc hfo ek ha hl ho vb si hb hp (by simp only[fP,hz,if_true,hfl,hfz];exact hv) hi hf (by rw[iV];exact hw)
theorem adz{v:Value}(hc:call en (.aL obs::ua)=some (.az v,outs))(ha:as++(xs.toList.map fun x=>un g (S.get C x))++bs=args)(hl:eF S.h 60 true [ju] 0 [] args=l)(ho:jv S.h l l=some (obs,gone))(vb:args.map (fQ l)=ua)(si:(ei (l.map (·.1))&&ei (l.map (·.2))&&(l.all fun x=>kg x.2)&&ei gone&&tj gone (l.map (·.1)))=true)(hb:jF (l.map fun x=>(x.2,x.1)) l outs=some back):o8 call S.h en (as++(xs.toList.map fun x=>un g (S.get C x))++bs)=some ⟨.az v,l,back,gone⟩:=by rw[ha];unfold o8 BS;rw[hl,ho];simp only[si,if_true,vb,hc,hb,Do]
theorem aci{d':Option Tmp}(hfo:un g (S.get C cW)= .fn (.func en) as bs)(ek:C.ji en=true){v:Value}(lE:o8 call S.h en (as++(xs.toList.map fun x=>un g (S.get C x))++bs)=some ⟨.az v,l,back,gone⟩):bU C f call S g ⟨d', .call ⟨.value cW,xs,ts⟩,ty,pos,bt,bS⟩=none:=by rw[Q1 hfo ek];unfold qL;rw[lE];rfl
theorem cQ{Z:List eO->pW->Prop}{K:List eO->aj->Prop}{m:Option (List Nat)}{ops:Array Oper}{i:Nat}{lo:List Oper}{ks:List eO}{v:Value}{d':Option Tmp}(hc:call en (.aL obs::ua)=some (.az v,outs)){rd:List Id}(k:Z ks ⟨i,lo,S,v,⟨[],rd,wr⟩⟩)(hfo:un true (S.get C cW)= .fn (.func en) as bs:=by exact rfl)(ek:C.ji en=true:=by exact rfl)(ha:as++(xs.toList.map fun x=>un true (S.get C x))++bs=args:=by exact spine)(hl:eF S.h 60 true [ju] 0 [] args=l:=by exact KA)(ho:jv S.h l l=some (Af,gone):=by exact Nw)(so:Af=obs:=by exact rfl)(vb:args.map (fQ l)=ua:=by exact Of)(si:(ei (l.map (·.1))&&ei (l.map (·.2))&&(l.all fun x=>kg x.2)&&ei gone&&tj gone (l.map (·.1)))=true:=by exact rfl)(hb:jF (l.map fun x=>(x.2,x.1)) l outs=some back:=by exact Kn)(iV:jf S.h back=Bv:=by exact KD)(hw:Bv++gone.map (fun i=>(i,none))=wr:=by exact spine)(hrd:l.map (·.1)=rd:=by exact spine)(hm:m=none:=by exact rfl):eS C f call ops m i (⟨d', .call ⟨.value cW,xs,ts⟩,ty,pos,bt,none⟩::lo) ks S K Z:=by subst hrd so iV hw;have lE:=adz (g:=true) hc ha hl ho vb si hb;refine Un (aci hfo ek lE) ?_ k hm;have aeJ:mE C (un true (S.get C cW))=some (en,as,bs):=by{rw[hfo];simp[mE,ek]};simp only[pG,p8,aeJ,DW,lE,AC]
theorem NQ{Z:List eO->pW->Prop}{K:List eO->aj->Prop}{m:Option (List Nat)}{ops:Array Oper}{i:Nat}{lo:List Oper}{ks:List eO}{x:Operand}{tt:TypeId}{v:Value}{d':Option Tmp}(k:Z ks ⟨i,lo,S, .iface tt v,⟨[],[],[]⟩⟩)(hx:un true (S.get C x)= .val (.iface tt v):=by exact rfl)(hm:m=none:=by exact rfl):eS C f call ops m i (⟨d', .panic x,ty,pos,bt,none⟩::lo) ks S K Z:=by refine Un rfl ?_ k hm;simp only[pG,p8,hx]
end
/-! ### Functions -/
def yq:Nat->List U->List (Nat×U)|_,[]=>[]|i,p::ps=>(i,p)::yq (i+1) ps
theorem OC:∀(ps:List U)(i t:Nat),dR (fun _=> .aW) (yq i ps) t=if t<i then .aW else ps.getD (t-i) .aW|[],i,t=>by{simp[yq,dR]}|p::ps,i,t=>by simp only[yq,dR,au];by_cases e:t=i;·{subst e;simp};·rw[if_neg e,OC ps (i+1) t];by_cases h1:t<i;·{rw[if_pos h1,if_pos (by omega)]};·rw[if_neg h1,if_neg (by omega),show t-i=(t-(i+1))+1 by omega];rfl
def oV(C:aF)(f:FuncId)(rv:List ResultVar)(ks:List Id)(r:U)(outs:List U)(x:Exit×aj):Prop:=((x.1= .ret∨x.1= .normal)∧∃S al vs i1 i2,nq (C.tn f) x.2=S∧(ks.filter fun k=>lF (S.h k))=al∧nC C S (ot S.h fun i=>al.contains i) rv=some (vs,i1)∧lJ S.h (fun i=>al.contains i) ks=some (outs,i2)∧ei (al++(i1++i2))=true∧xD vs=r)∨∃v,x.1=fT v∧r= .az v∧BN ks (nq (C.BI f) x.2)=some outs
section
variable{C:aF}{f:FuncId}{S:aj}{rv:List ResultVar}{ks al:List Id}{vs outs outs' cs cs':List U}{ids is i1 i2:List Id}{r v v' x:U}{p:U->Option (U×List Id)}{L:Id->Option (Option Rows)}{keep:Id->Bool}{rows bQ:Rows}{k:Id}{T:TypeId}
theorem akp:nC C S p []=some ([],[]):=rfl
theorem akr{t:Nat}(h:p (un true (S.t t))=some (v,ids))(hr:nC C S p rv=some (vs,is)):nC C S p (.tmp t::rv)=some (v::vs,ids++is):=by show(x9 C S p (.tmp t)).bind _=_;simp only[x9,h,AC,hr,Do]
theorem akq{a m:Nat}{id:Id}{bb:Bool}{r:List U}[ha:eK C T bb m](hx:un true (S.t a)= .mp id 0 0)(hh:S.h id=some (some [r]))(hl:GT m r.length=true)(hv:kH bb (r.take m)=some v)(h:p v=some (v',ids))(hr:nC C S p rv=some (vs,is)):nC C S p (.cell a T::rv)=some (v'::vs,id::ids++is):=by show(x9 C S p (.cell a T)).bind _=_;have hl':0+m<=r.length:=by{have:=Ha hl;omega};simp only[x9,ha.mw,ha.sz,hx,hh,List.getElem?_cons_zero,if_pos hl',List.drop_zero,hv,AC,h,hr,Do]
theorem Qx:∀{cs:List U},dJ cs=true->fF (jg L keep) cs=some (cs,[])|[],_=>rfl|c::cs,h=>by simp only[dJ,Hb]at h;simp only[fF,DY h.1,AC,Qx h.2,Do];rfl
theorem abx(hf:flat x=true):ot L keep x=some (x,[]):=by cases x with|agg cs=>(simp only[flat]at hf;simp only[ot,Qx hf,Do])|_=>exact DY (h:=L) (keep:=keep) hf
theorem abv(hx:x= .agg cs:=by exact rfl)(h:fF (jg L keep) cs=some (cs',ids)):ot L keep x=some (.agg cs',ids):=by subst hx;simp only[ot,h,Do]
def isAgg:U->Bool| .agg _=>true|_=>false
theorem abB(hx:isAgg x=false)(h:jg L keep x=some (v,ids)):ot L keep x=some (v,ids):=by cases x<;>first|exact h|cases hx
theorem KK{y:Option (U×List Id)}(k:ot L keep x=y:=by(repeat'(first|(refine abx ?_;exact K2)|(apply abv;exact rfl)|(apply abB;exact rfl)|exact Kw|exact Kx|exact Qq|exact Ky|(apply Qs;exact rfl;exact rfl;exact nY)|(apply Kz;exact rfl;exact rfl;exact nY)|(apply Qr;exact rfl;exact rfl;exact nY)|(apply DY;first|exact rfl|exact Rf|exact Ri|exact Rg)|exact Qp|exact Ej|(apply Ei;exact rfl)));first|done|fail):ot L keep x=y:=k
theorem UU{y:Option (List U×List Id)}(h:nC C S (ot L keep) rv=y:=by repeat'(first|with_reducible exact akp|((with_reducible apply akr);exact KK)|((with_reducible apply akq);exact rfl;exact rfl;exact rfl;(first|exact IY|exact M5 rfl);exact KK)|((with_reducible apply aqs);exact rfl;exact rfl;(first|exact IY|exact M5 rfl);exact KK))):nC C S (ot L keep) rv=y:=h
theorem ahN:lJ L keep []=some ([],[]):=rfl
theorem ahL(h:L k=some (some rows))(hc:o3 L keep rows=some (bQ,i1))(hy:lJ L keep ks=some (outs,i2)):lJ L keep (k::ks)=some (.aT k bQ::outs,i1++i2):=by simp[lJ,h,hc,hy]
theorem ahM(h:lF (L k)=false)(hy:lJ L keep ks=some (outs,i2)):lJ L keep (k::ks)=some (.aW::outs,i2):=by unfold lJ;split;·{rename_i rows e;rw[e]at h;cases h};·rw[hy];rfl
theorem Nt{y:Option (List U×List Id)}(h:lJ L keep ks=y:=by(repeat'(first|exact ahN|(apply ahL;exact rfl;exact QJ)|(apply ahM;exact rfl)));first|done|fail):lJ L keep ks=y:=h
theorem acv{p:Id->Bool}:GE p []=([]:List Id):=rfl
theorem acB{p:Id->Bool}{k:Id}{ks al:List Id}(h:p k=true)(hy:GE p ks=al):GE p (k::ks)=k::al:=by rw[Hm h,hy]
theorem acD{p:Id->Bool}{k:Id}{ks al:List Id}(h:p k=false)(hy:GE p ks=al):GE p (k::ks)=al:=by rw[Hk (by simp[h]),hy]
theorem K3{p:Id->Bool}{y:List Id}(h:GE p ks=y:=by(repeat'(first|exact acv|(apply acB;exact rfl)|(apply acD;exact rfl)));first|done|fail):GE p ks=y:=h
theorem ags{S:aj}{l:List Id}(hl:l=[]:=by exact rfl):nq l S=S:=by subst hl;rfl
theorem agt{n:Nat}{t:Nat->U}{h:Id->Option (Option Rows)}{l l2:List Id}(hl:l=l2:=by exact spine):nq l ⟨n,t,h⟩=⟨n,t,bE h (l2.map fun i=>(i,none))⟩:=by subst hl;rfl
theorem ML{S S':aj}{l:List Id}(k:nq l S=S':=by first|exact ags|exact agt):nq l S=S':=k
theorem dS{iA:aj}(hk:nq (C.tn f) iA=S:=by exact ML)(ha:(ks.filter fun k=>lF (S.h k))=al:=by exact K3)(h:nC C S (ot S.h fun i=>al.contains i) rv=some (vs,i1):=by exact UU)(ho:lJ S.h (fun i=>al.contains i) ks=some (outs',i2):=by exact Nt)(so:outs'=outs:=by exact rfl)(hn:ei (al++(i1++i2))=true:=by exact rfl)(hr:xD vs=r:=by exact rfl):oV C f rv ks r outs (.ret,iA):=by subst so;exact .inl ⟨.inl rfl,S,al,vs,i1,i2,hk,ha,h,ho,hn,hr⟩
theorem Lb{iA:aj}(hk:nq (C.tn f) iA=S:=by exact ML)(ha:(ks.filter fun k=>lF (S.h k))=al:=by exact K3)(h:nC C S (ot S.h fun i=>al.contains i) rv=some (vs,i1):=by exact UU)(ho:lJ S.h (fun i=>al.contains i) ks=some (outs',i2):=by exact Nt)(so:outs'=outs:=by exact rfl)(hn:ei (al++(i1++i2))=true:=by exact rfl)(hr:xD vs=r:=by exact rfl):oV C f rv ks r outs (.normal,iA):=by subst so;exact .inl ⟨.inr rfl,S,al,vs,i1,i2,hk,ha,h,ho,hn,hr⟩
theorem cO{iA:aj}{v:Value}(hk:nq (C.BI f) iA=S:=by exact ML)(ha:(ks.filter fun k=>lF (S.h k))=al:=by exact K3)(ho:lJ S.h (fun i=>al.contains i) ks=some (outs',i2):=by exact Nt)(so:outs'=outs:=by exact rfl)(hn:ei (al++i2)=true:=by exact rfl)(hr:r=U.az v:=by exact rfl):oV C f rv ks r outs (fT v,iA):=by subst so ha hk;refine .inr ⟨v,rfl,hr, ?_⟩;unfold BN;simp only[ho,hn,if_true]
theorem gm{fn:Func}{c:Code}{obs args:List U}{hl:List (Id×Rows)}{zs:List (Nat×U)}{nn N:Nat}(hf:C.P.funcs[f]? =some fn)(hn:fn.ntmps=N)(hr:fn.results.toList=rv)(k:nJ ju (C.jW f ju) [] (fun iA=>W C f (den C nn) c iA (oV C f rv ks r outs)) ⟨N,dR (fun _=> .aW) zs,k7 hl⟩)(hb:fn.body=some c:=by exact rfl)(he:C.ext f=none:=by exact rfl)(ek:C.ji f=true:=by exact rfl)(hl':GT args.length N=true:=by exact rfl)(hN:GT N ju=true:=by exact rfl)(ho:xA obs=some hl:=by exact rfl)(hz:yq 0 args=zs:=by exact spine)(hk:hl.map (·.1)=ks:=by exact spine)(hdf:BG C f c=false:=by exact rfl):den C (nn+1) f (.aL obs::args)=some (r,outs):=by obtain⟨iA,h0,bM,h1,⟨e,s⟩,h2,h9⟩:=k;simp only[k4,Hc]at h1;subst h1;subst hn hz hk;show tr C (den C nn) lZ f _=_;unfold tr;simp only[he,hf,hb,ek,if_true];unfold Ea;simp only[ho];rw[if_pos ⟨Ha hl',Ha hN⟩,hdf];simp only[Hd,if_false];have e0:AY fn.ntmps args hl=⟨fn.ntmps,dR (fun _=> .aW) (yq 0 args),k7 hl⟩:=by{unfold AY;congr 1;funext t;rw[OC];simp};rw[e0,h0];simp only[AC,h2];rcases h9 with⟨h3,Yc,al,vs,i1,i2,ET,h4,h5,h6,h7,h8⟩|⟨v,h3,rfl,h4⟩;·{subst hr;have cN:uQ C fn (hl.map (·.1)) (nq (C.tn f) s)=some (r,outs):=by{simp only at ET;rw[ET];unfold uQ;simp only[h4,h5,h6,h7,if_true];rw[<-h8];congr 2;cases vs with|nil=>(rfl)|cons a l=>cases l<;>rfl};rcases h3 with h3|h3;·{simp only at h3;subst h3;exact cN};·simp only at h3;subst h3;exact cN};·simp only at h3 h4;subst h3;simp only[fT,ri,AC,h4,Do]
end
open Go
theorem adm{n s:Nat}{t:Nat->U}{h:Id->Option (Option Rows)}{rows:Rows}(hs:t s= .sl rows:=by exact rfl):o7 ⟨n,t,h⟩ s=some ⟨n,t,h⟩:=by unfold o7;simp only[hs]
section
variable{C:aF}{f:FuncId}{call:gK}{S:aj}{g:Bool}{d:Nat}{t ty:TypeId}{pos:String}{bt:Array Edge}{bS:Option (Nat×Bool)}{x:Operand}
def r3(l:List ByteArray):U:= .sl (l.map fun s=>[.val (.string s)])
theorem Tp{α:Type}{c:α->U}{T:TypeId}{y:Operand}{k:IntKind}{e:TypeId}{m len:Nat}{bb:Bool}{i:Int}{r:α}{q:List α}(hi:idx q i=some r)[hu:eL C T (.array len e)][hs:eK C e bb m](hx:un g (S.get C x)= .bD (q.map c):=by exact rfl)(hy:un g (S.get C y)= .val (.int k i):=by first|exact rfl|exact cY)(hm:m=1:=by exact rfl)(hl:q.length=len:=by exact rfl):bU C f call S g ⟨some d, .indexAddr T x y,ty,pos,bt,bS⟩=some ⟨[(d, .bD (c r::(q.map c).drop (i.toNat+1)))],[],[]⟩:=by show pY C S _ T (un g (S.get C x)) (fA (un g (S.get C y)))=_;have hb:=MB hi;have hn:=vi hi;subst hm hl;have hlt:i.toNat<q.length:=by{omega};have e1:(q.map c).drop (i.toNat*1)=c r::(q.map c).drop (i.toNat+1):=by{have:q[i.toNat]=r:=by{rw[List.getElem?_eq_getElem hlt]at hn;simpa using hn};rw[Nat.mul_one,List.drop_eq_getElem_cons (by simpa using hlt)];simp[this]};simp only[hx,hy,fA,pY,hu.ul,hs.sz];rw[if_pos ⟨hb.1,hb.2,by simp;omega⟩,e1];rfl
end
open Go
inductive av(α β:Type)where|ok(a:α)|az(v:Value)(b:β)
def av.on{α β γ:Type}(p:Value->β->Option γ)(k:α->Option γ):av α β->Option γ| .ok a=>k a| .az v b=>p v b
theorem cP{α β γ:Type}{x:Option (av α β)}{p:Value->β->Option γ}{k:α->Option γ}{r:γ}{G:Prop}(hF:x.bind (av.on p k)=some r)(h1:∀v b,x=some (.az v b)->p v b=some r->G)(h2:∀a,x=some (.ok a)->k a=some r->G):G:=by cases x with|none=>(cases hF)|some y=>cases y with|ok a=>(exact h2 a rfl hF)|az v b=>exact h1 v b rfl hF
theorem akk{S:aj}:(Exit.ret,S).1≠ .normal:=by simp
theorem jx{v:Value}{S:aj}:(fT v,S).1≠ .normal:=by simp[fT]
theorem zc{C:aF}{f:FuncId}{rv:List ResultVar}{ks:List Id}{r:U}{outs:List U}{x:Exit×aj}(hne:x.1≠ .normal)(h:oV C f rv ks r outs x):x.1= .ret∨∃v,x.1=fT v:=by rcases h with⟨h|h,_⟩|⟨v,h,_⟩;·{exact .inl h};·{exact absurd h hne};·exact .inr ⟨v,h⟩
class JT(C:aF)(t:TypeId):Prop where Nd:(match C.P.underlying t with|some (.interface _)=>false|some _=>true|none=>false)=true
section
variable{C:aF}{f:FuncId}{call:gK}{S:aj}{g:Bool}{d:Nat}{t ty:TypeId}{pos:String}{bt:Array Edge}{bS:Option (Nat×Bool)}{x:Operand}
theorem acf [hi:JT C t]{o:Oper}{a:U}{v:Value}(hv:nF a=some v)(hs:gN (.iface t v)=true):rY C o t a=ret o (.val (.iface t v)):=by have h:=hi.Nd;unfold rY;split at h;·{cases h};·{rename_i h1 h2;rw[h2];cases he:C.P.underlying t<;>simp_all};·cases h
theorem Np{cs:List U}{vs:List Value}[hi:JT C t](hx:un g (S.get C x)= .agg cs:=by first|exact rfl|exact cY)(hv:j5 cs=some vs:=by exact rfl)(hs:vs.all Gf=true:=by exact rfl):bU C f call S g ⟨some d, .makeInterface t x,ty,pos,bt,bS⟩=some ⟨[(d, .val (.iface t (.agg ⟨vs⟩)))],[],[]⟩:=by show rY C _ t (un g (S.get C x))=_;rw[hx,acf (v:= .agg ⟨vs⟩) (by simp only[nF,hv,Do]) hs];rfl
end
open Go
section
variable{C:aF}{f:FuncId}{call:gK}{S:aj}{A b c:Code}{o0 o1:Oper}{d:Nat}{Q:Exit×aj->Prop}
def Bh(C:aF)(d:Nat)(Q:Exit×aj->Prop)(x:Exit×aj):Prop:=∃y,vI C d x=some y∧Q y
theorem Ur(h:Q (.ret,S)):Bh C d Q (.ret,S):=⟨_,rfl,h⟩
theorem Uq{v:Value}{k:FuncId}{xs cs:List U}{g:Value->List U->List U->aj->Option aj}{S':aj}(hd:S.t d= .fn (.func k) xs cs)(hg:g v xs cs S=some S')(h:Q (.ret,S'))(hk:C.qu k=some g:=by exact rfl):Bh C d Q (fT v,S):=⟨(.ret,S'),by simp only[fT,vI,ri,AC,hd,hk,hg,Do],h⟩
def Du(C:aF)(f:FuncId)(call:gK)(o0 o1:Oper)(d:Nat)(b:Code)(Q:Exit×aj->Prop)(x:Exit×aj):Prop:=match x.1 with| .normal=>eS C f call #[o0,o1] none 0 [o0] [] x.2 (fun _ bM=>∃k xs cs,bM.t d= .fn (.func k) xs cs∧C.pq k=true∧W C f call b bM (Bh C d Q)) z8|_=>Q x
theorem ajE(h:eS C f call #[o0,o1] none 0 [o0] [] S (fun _ bM=>∃k xs cs,bM.t d= .fn (.func k) xs cs∧C.pq k=true∧W C f call b bM (Bh C d Q)) z8):Du C f call o0 o1 d b Q (.normal,S):=h
theorem ajF(h:Q (.ret,S)):Du C f call o0 o1 d b Q (.ret,S):=h
theorem ahn{ks:List eO}{i:Nat}{ops:Array Oper}{m:Option (List Nat)}{k:FuncId}{xs cs:List U}(h:W C f call b S (Bh C d Q))(hd:S.t d= .fn (.func k) xs cs:=by exact rfl)(hk:C.pq k=true:=by exact rfl):eS C f call ops m i [] ks S (fun _ bM=>∃k xs cs,bM.t d= .fn (.func k) xs cs∧C.pq k=true∧W C f call b bM (Bh C d Q)) z8:=nl ⟨k,xs,cs,hd,hk,h⟩
theorem abK(k:W C f call A S (Du C f call o0 o1 d b Q))(hs:vX C f c=some (A,o0,o1,d,b)):∃x,pZ C f call lZ c S=some x∧Q x:=by obtain⟨⟨x,bM⟩,h1,h2⟩:=k;rw[ack c hs,h1];simp only[AC];cases x with|normal=>(unfold Du at h2;simp only at h2;obtain⟨⟨b7,ks⟩,h3,k,xs,cs,h4,h5,⟨y,T⟩,h6,z,h7,h8⟩:=Bf h2;refine⟨z, ?_,h8⟩;simp only[HP,h3,AC];simp only at h4;rw[h4];simp only[h5,if_true,h6,AC];exact h7)|_=>exact⟨_,rfl,h2⟩
theorem acP{rv:List ResultVar}{ks:List Id}{r:U}{outs:List U}{fn:Func}{obs args:List U}{hl:List (Id×Rows)}{zs:List (Nat×U)}{nn N:Nat}(hf:C.P.funcs[f]? =some fn)(hn:fn.ntmps=N)(hr:fn.results.toList=rv)(k:nJ ju (C.jW f ju) [] (fun iA=>W C f (den C nn) A iA (Du C f (den C nn) o0 o1 d b (oV C f rv ks r outs))) ⟨N,dR (fun _=> .aW) zs,k7 hl⟩)(hb:fn.body=some c:=by exact rfl)(he:C.ext f=none:=by exact rfl)(ek:C.ji f=true:=by exact rfl)(hl':GT args.length N=true:=by exact rfl)(hN:GT N ju=true:=by exact rfl)(ho:xA obs=some hl:=by exact rfl)(hz:yq 0 args=zs:=by exact spine)(hk:hl.map (·.1)=ks:=by exact spine)(hs:vX C f c=some (A,o0,o1,d,b):=by exact rfl)(hdf:BG C f c=true:=by exact rfl):den C (nn+1) f (.aL obs::args)=some (r,outs):=by obtain⟨iA,h0,bM,h1,h2⟩:=k;simp only[k4,Hc]at h1;subst h1;obtain⟨⟨e,s⟩,adM,h9⟩:=abK h2 hs;subst hr hn hz hk;show tr C (den C nn) lZ f _=_;unfold tr;simp only[he,hf,hb,ek,if_true];unfold Ea;simp only[ho];rw[if_pos ⟨Ha hl',Ha hN⟩,hdf];simp only[if_true];have e0:AY fn.ntmps args hl=⟨fn.ntmps,dR (fun _=> .aW) (yq 0 args),k7 hl⟩:=by{unfold AY;congr 1;funext t;rw[OC];simp};rw[e0,h0];simp only[AC];rw[adM];simp only[AC];rcases h9 with⟨h3,Yc,al,vs,i1,i2,ET,h4,h5,h6,h7,h8⟩|⟨v,h3,rfl,h4⟩;·{have cN:uQ C fn (hl.map (·.1)) (nq (C.tn f) s)=some (r,outs):=by{simp only at ET;rw[ET];unfold uQ;simp only[h4,h5,h6,h7,if_true];rw[<-h8];congr 2;cases vs with|nil=>(rfl)|cons a l=>cases l<;>rfl};rcases h3 with h3|h3;·{simp only at h3;subst h3;exact cN};·simp only at h3;subst h3;exact cN};·simp only at h3 h4;subst h3;simp only[fT,ri,AC,h4,Do]
end
end Go.Ab
