import Derived.Test.YtbbhbdlljfffdaaGreatDoorAbV7
open Bool renaming and_eq_true→Hd,false_eq_true→Hm
open List renaming filter→GT,filter_cons_of_neg→Hn,filter_cons_of_pos→H0
open Nat renaming ble→Hb,le_of_ble_eq_true→Hc
open Option renaming bind_some→GE,map_some→Ha
open Option.some renaming injEq→Hk
set_option linter.all false
namespace Go.Ab
open Go
/-! ### Maps as lists of pairs -/
section
variable{K V:Type}
end
class Y9{K:Type}(vm:K→Value)(kind:outParam TypeDesc)(eq:outParam (K→K→Bool)):Prop where same:∀a b,Instr.sameNow kind (vm a) (vm b)=some (eq a b)sc:∀a,dw (vm a)=true
section
variable{K V:Type}{vm:K→Value}{ev:V→Value}{kind:TypeDesc}{eq:K→K→Bool}
end
class Zb(C:aB)(T:TypeId)(kind:outParam TypeDesc)(z:outParam Value):Prop where mt:uc C T=some (kind,z)
section
variable{C:aB}{f:FuncId}{call:FuncId→List U→Option (U×List U)}{S:ah}{g:Bool}
variable{d:Nat}{ty:TypeId}{pos:String}{aM:Array Edge}{bp:Option (Nat×Bool)}{x y z:Operand}{T:TypeId}
variable{K V:Type}{vm:K→Value}{ev:V→Value}{kind:TypeDesc}{eq:K→K→Bool}{cD:V}{l:List (K×V)}{k:K}{v:V}{id:Id}
end
end Go.Ab
namespace Go.Ab
open Go
inductive Zc(σ cC:Type)where|go(s:σ)|ret(t:cC)|ex(t:cC)
section
variable{C:aB}{f:FuncId}{call:eV}{S:ah}{Q:Exit×ah→Prop}{assign body:Code}{α σ cC ρ:Type}{r:ρ}{rep:σ→ah}{iP:cC→ah}{enc:α→List U}{aaB:Operand}{ps:Array Tmp}{j:Nat}
end
section
variable{C:aB}{f:FuncId}{call:eV}{c:Code}{Q:Exit×ah→Prop}{n:Nat}{t t2:Nat→U}{h:Id→Option (Option Rows)}{l:List Nat}{vs:List U}{zs:List (Nat×U)}
end
end Go.Ab
namespace Go.Ab
open Go
section
variable{C:aB}{f:FuncId}{call:eV}{S:ah}{g:Bool}{d:Nat}{ty:TypeId}{pos:String}{aM:Array Edge}{bp:Option (Nat×Bool)}
end
end Go.Ab
namespace Go.Ab
open Go
section
variable{n:Nat}{t:Nat→U}{h L:Id→Option (Option Rows)}
/-! ### Opened, frozen -/
theorem aA{p s row off:Nat}{id:Id}{r r':List U}{x:Id×Option Rows}{wr:List (Id×Option Rows)}(hs:t s= .mp id row off:=by exact rfl)(hid:h id=some (some [r]):=by exact rfl)(hu:bw [p,s] 0 r=(r',x::wr):=by exact sE)(CI:Nat.blt s n=true:=by exact rfl)(hf:fresh h (x::wr)=true:=by exact rfl):nh p ⟨n,t,h⟩ s=some ⟨n,t,aQ h ((id,some [r'])::x::wr)⟩:=WM hs hid hu CI hf
theorem JU{p s row off:Nat}{id:Id}{r r':List U}(hs:t s= .mp id row off:=by exact rfl)(hid:h id=some (some [r]):=by exact rfl)(hu:bw [p,s] 0 r=(r',[]):=by exact sE):nh p ⟨n,t,h⟩ s=some ⟨n,t,h⟩:=by unfold nh;simp only[hs,hid,hu,List.isEmpty_nil,if_true]
def Uz:U→Bool| .rs _ _ _| .bQ| .mr _=>true|_=>false
theorem vH{s:Nat}{v v':U}{ids:List Id}{wr:List (Id×Option Rows)}(hl:Uz (t s)=true:=by exact rfl)(hp:pk h 9 (t s)=some (v,ids):=by exact jM)(hf:cS v=v':=by exact vG)(hn:de ids=true:=by exact rfl)(hw:(ids.map fun i=>(i,none))=wr:=by exact spine):kC ⟨n,t,h⟩ s=some ⟨n,ai t s v',aQ h wr⟩:=by have e:k5 ⟨n,t,h⟩ s=some ⟨n,ai t s v',aQ h wr⟩:=by{subst hf hw;simp only[k5,hp,hn,if_true]};rw[←e];cases hts:t s<;>rw[hts]at hl<;>first|(unfold kC;simp only[hts];done)|cases hl
theorem RB{s:Nat}(hl:t s= .bQ:=by exact rfl):kC ⟨n,t,h⟩ s=some ⟨n,ai t s (.sl []),h⟩:=by simp only[kC,hl,k5,pk,de,if_true];rfl
/-! ### Names of what arguments lead to -/
def I7:U→Bool| .fn _ as cs=> !(as.isEmpty&&cs.isEmpty)| .rs _ _ _=>true| .mp _ _ _=>true| .mr _=>true| .agg _=>true|_=>false
variable{m j:Nat}{b:Bool}{p i:Id}{acc acc' kY y l:List (Id×Id)}{a:U}{as cs c9:List U}
theorem GI(hx:c9=[])(e:acc=y):c5 L m b p j acc c9=y:=by subst hx;cases m<;>exact e
theorem Po(hx:c9=a::as)(hs:I7 a=false)(k:c5 L m b p (j+1) acc as=y):c5 L (m+1) b p j acc c9=y:=by subst hx;cases a with|fn f xs cs=>(simp only[I7,Bool.not_eq_false',Hd,List.isEmpty_iff]at hs;obtain⟨rfl,rfl⟩:=hs;have e:c5 L m true (j::p) 0 acc ([]++[])=acc:=by{cases m<;>rfl};simp only[c5,e];exact k)|_=>first|exact k|cases hs
theorem Pm{o q:Nat}(hx:c9= .rs i o q::as)(hn:(!b||(eP acc i).isSome)=false)(hl:acc++[(i,j::p)]=acc')(k:c5 L m b p (j+1) acc' as=y):c5 L (m+1) b p j acc c9=y:=by subst hx hl;simp only[c5,hn];exact k
theorem Pn{o q:Nat}(hx:c9= .rs i o q::as)(hn:(!b||(eP acc i).isSome)=true)(k:c5 L m b p (j+1) acc as=y):c5 L (m+1) b p j acc c9=y:=by subst hx;simp only[c5,hn];exact k
theorem Pj{o q:Nat}(hx:c9= .mp i o q::as)(hn:(eP acc i).isSome=false)(hh:L i=some (some [cs]))(hl:acc++[(i,j::p)]=acc')(h1:c5 L m false (j::p) 0 acc' cs=kY)(k:c5 L m b p (j+1) kY as=y):c5 L (m+1) b p j acc c9=y:=by subst hx hl h1;simp only[c5,hn,hh];exact k
theorem Pk{o q:Nat}(hx:c9= .mp i o q::as)(hn:(eP acc i).isSome=true)(k:c5 L m b p (j+1) acc as=y):c5 L (m+1) b p j acc c9=y:=by subst hx;simp only[c5,hn];exact k
theorem Pg(hx:c9= .agg cs::as)(h1:c5 L m b (j::p) 0 acc cs=kY)(k:c5 L m b p (j+1) kY as=y):c5 L (m+1) b p j acc c9=y:=by subst hx h1;simp only[c5];exact k
theorem Ph{f:Fn}{xs:List U}(hx:c9= .fn f xs cs::as)(h1:c5 L m true (j::p) 0 acc (xs++cs)=kY)(k:c5 L m b p (j+1) kY as=y):c5 L (m+1) b p j acc c9=y:=by subst hx h1;simp only[c5];exact k
theorem GJ(k:c5 L m b p j acc c9=y:=by(repeat'(first|((with_reducible apply GI);(with_reducible exact rfl);exact rfl)|((with_reducible apply Po);exact rfl;first|exact rfl|exact abe|exact abf)|((with_reducible apply Pm);exact rfl;exact rfl;exact spine)|((with_reducible apply Pn);exact rfl;exact rfl)|((with_reducible apply ZH);exact rfl;exact rfl;exact spine)|((with_reducible apply ZI);exact rfl;exact rfl)|((with_reducible apply Pk);exact rfl;exact rfl)|((with_reducible apply Pj);exact rfl;exact rfl;exact rfl;exact spine)|((with_reducible apply Pg);exact rfl)|((with_reducible apply Ph);exact rfl)|(apply GI;exact rfl;exact rfl)));first|done|fail):c5 L m b p j acc c9=y:=k
/-! ### The objects that go -/
variable{o k:Id}{r l':List (Id×Id)}{rows x1 aV:Rows}{i1 i2 gone ids:List Id}{obs outs:List U}{keep:Id→Bool}{back:List (Id×Option Rows)}
theorem PZ(hf:dz rows=true):kA L keep rows=some (rows,[]):=by simp only[kA,hf,if_true]
theorem P0(hf:dz rows=false)(hc:ef (iW L keep) rows=some (aV,ids)):kA L keep rows=some (aV,ids):=by simp[kA,hf,hc]
theorem GU{y:Option (Rows×List Id)}(k:kA L keep rows=y:=by(repeat'(first|(apply PZ;first|exact pW _|exact rfl|exact BD)|(apply ZO;exact rfl;exact rfl;(first|(with_reducible assumption)|assumption);exact inferInstance;rotate_left;exact rfl)|(apply P0;exact rfl)|exact HC|(apply HD;exact rfl)|exact PY|(apply GS;exact rfl)|exact Bh|exact Bi|exact GC|exact Bj|(apply GF;exact rfl;exact rfl;exact jM)|(apply Bk;exact rfl;exact rfl;exact jM)|(apply GD;exact rfl;exact rfl;exact jM)|(apply vi;first|exact rfl|exact Hs|exact Hv|exact Ht)|exact GB|exact vA|(apply vz;exact rfl)));first|done|fail):kA L keep rows=y:=k
theorem V4:fY L l []=some ([],[]):=rfl
theorem V3(h:L o=some (some rows))(hc:kA L (oO l) rows=some (x1,i1))(hr:jP l x1=some aV)(hy:fY L l r=some (obs,gone)):fY L l ((o,k)::r)=some (.aP k aV::obs,i1++gone):=by simp[fY,h,hc,hr,hy]
theorem JH{y:Option (List U×List Id)}(k:fY L l r=y:=by(repeat'(first|exact V4|(apply V3;exact rfl;exact GU;(first|exact Ep|exact Er|exact Es))));first|done|fail):fY L l r=y:=k
theorem OA:gb l' [] []=some []:=rfl
theorem Oy(hr:jP l' rows=some aV)(hy:gb l' r outs=some back):gb l' ((o,k)::r) (.aP k rows::outs)=some ((o,some aV)::back):=by simp[gb,hr,hy]
theorem Oz(hy:gb l' r outs=some back):gb l' ((o,k)::r) (.aU::outs)=some ((o,none)::back):=by simp[gb,hy]
theorem Pr:gX L []=[]:=rfl
theorem Pq{x:Id×Option Rows}{fy:List (Id×Option Rows)}(hs:n3 L x=true)(k:gX L fy=back):gX L (x::fy)=back:=by unfold gX at*;rw[Hn (by simp[hs])];exact k
theorem Pp{x:Id×Option Rows}{fy:List (Id×Option Rows)}(hs:n3 L x=false)(k:gX L fy=back):gX L (x::fy)=x::back:=by unfold gX at*;rw[H0 (by simp[hs]),k]
theorem Ys{α:Type}{c:α→List U}[hc:lN c]{q:List α}:n3 L (o,some (q.map c))=false:=by cases h:n3 L (o,some (q.map c))with|false=>(rfl)|true=>exfalso;unfold n3 at h;split at h;·{rename_i h1 h2;simp only[Hk]at h2;have:dz (q.map c)=true:=pW q;rw[h2]at this;simp[dz,cp,flat]at this};·cases h
theorem GK{fy:List (Id×Option Rows)}{y:List (Id×Option Rows)}(k:gX L fy=y:=by(repeat'(first|exact Pr|(apply Pq;exact rfl)|(apply Pp;first|exact Ys|exact rfl)));first|done|fail):gX L fy=y:=k
theorem Gs{y:Option (List (Id×Option Rows))}(k:gb l' r outs=y:=by(repeat'(first|exact OA|(apply Oy;(first|exact Ep|exact Er|exact Es))|apply Oz));first|done|fail):gb l' r outs=y:=k
/-! Values under other names -/
theorem Yd(hf:flat a=true):ek l a=a:=by cases a with|agg cs=>(simp only[flat]at hf;simp[ek,xO hf])|aE cs=>(simp only[flat]at hf;simp[ek,xO hf])|fn f as cs=>(simp only[flat,Hd]at hf;simp[ek,xO hf.1,xO hf.2])|rs _ _ _=>(simp[flat]at hf)|mp _ _ _=>(simp[flat]at hf)|mr _=>(simp[flat]at hf)|cF _ _=>(simp[flat]at hf)|bQ=>(simp[flat]at hf)|_=>simp only[ek,qA,uB];rw[AC hf]
theorem QG(hf:cp cs=true):flat (.agg cs)=true:=hf
theorem QS(hf:cp cs=true):flat (.aE cs)=true:=hf
theorem QI{α:Type}{c:α→List U}{x:α}[hc:lN c]:cp (c x)=true:=hc.fl x
theorem BG{a:U}(k:flat a=true:=by(repeat'(first|exact rfl|exact QH|exact QL|exact Hu|(with_reducible apply QG)|(with_reducible apply QS)|exact QI|exact QK|(apply Hr;exact rfl)));first|done|fail):flat a=true:=k
theorem Ez{a':U}(k:ek l a=a':=by first|(refine Yd ?_;exact BG)|exact rfl):ek l a=a':=k
theorem X4(hx:c9=[]:=by exact rfl):c9.map (ek l)=[]:=by subst hx;rfl
theorem X3{a':U}{bs:List U}(hx:c9=a::as)(h:ek l a=a')(k:as.map (ek l)=bs):c9.map (ek l)=a'::bs:=by subst hx h k;rfl
theorem KZ{bs:List U}(k:c9.map (ek l)=bs:=by(repeat'(first|exact X4|(apply X3;exact rfl;exact Ez)));first|done|fail):c9.map (ek l)=bs:=k
end
section
variable{C:aB}{f:FuncId}{call:eV}{S:ah}{g:Bool}{d:Nat}{ty:TypeId}{pos:String}{aM:Array Edge}{bp:Option (Nat×Bool)}
variable{cj:Operand}{ts:Array TypeId}{dc:FuncId}{as bs args uz obs outs xk ab1:List U}{l:List (Id×Id)}{gone:List Id}{r v v':U}{back yE js wr:List (Id×Option Rows)}{xs:Array Operand}
theorem Qx{d':Option Tmp}(hfo:un g (S.get C cj)= .fn (.func dc) as bs)(dm:C.fP dc=true):bn C f call S g ⟨d', .call ⟨.value cj,xs,ts⟩,ty,pos,aM,bp⟩=mG C f call S ⟨d', .call ⟨.value cj,xs,ts⟩,ty,pos,aM,bp⟩ dc (as++(xs.toList.map fun x=>un g (S.get C x))++bs):=by show(match kD C (un g (S.get C cj))with|some x=>mG C f call S _ x.1 (x.2.1++(xs.toList.map fun x=>un g (S.get C x))++x.2.2)|none=>_)=_;have:kD C (un g (S.get C cj))=some (dc,as,bs):=by{rw[hfo];simp[kD,dm]};rw[this]
theorem Gz(hc:call dc (.aE obs::uz)=some (r,outs))(hfo:un g (S.get C cj)= .fn (.func dc) as bs)(dm:C.fP dc=true)(ha:as++(xs.toList.map fun x=>un g (S.get C x))++bs=args)(hl:c5 S.h 60 true [fX] 0 [] args=l)(ho:fY S.h l l=some (obs,gone))(wv:args.map (ek l)=uz)(rH:(de (l.map (·.1))&&de (l.map (·.2))&&(l.all fun x=>gK x.2)&&de gone&&pN gone (l.map (·.1)))=true)(hb:gb (l.map fun x=>(x.2,x.1)) l outs=some back)(hp:tV r=false)(hv:ek (l.map fun x=>(x.2,x.1)) (if dS C f (some d)then(if flat r then cS r else .aU)else r)=v)(hi:imp [d] v=(v',js))(hf:fresh S.h js=true)(hw:js++(gX S.h back++gone.map fun i=>(i,none))=wr):bn C f call S g ⟨some d, .call ⟨.value cj,xs,ts⟩,ty,pos,aM,bp⟩=some ⟨[(d,v')],l.map (·.1),wr⟩:=by rw[Qx hfo dm,ha];subst hw;have e:nJ call S.h dc args=some ⟨r,l,back,gone⟩:=by{unfold nJ vI;rw[hl,ho];simp only[rH,if_true,wv,hc,hb,Ha]};unfold mG;rw[e];simp only[GE,hp,Hm,if_false,gd,hv,hi,hf,if_true];rfl
theorem cJ(hc:call dc (.aE obs::uz)=some (r,outs)){rd:List Id}(hfo:un g (S.get C cj)= .fn (.func dc) as bs:=by exact rfl)(dm:C.fP dc=true:=by exact rfl)(ha:as++(xs.toList.map fun x=>un g (S.get C x))++bs=args:=by exact spine)(hl:c5 S.h 60 true [fX] 0 [] args=l:=by exact GJ)(ho:fY S.h l l=some (xk,gone):=by exact JH)(rR:xk=obs:=by exact rfl)(wv:args.map (ek l)=uz:=by exact KZ)(rH:(de (l.map (·.1))&&de (l.map (·.2))&&(l.all fun x=>gK x.2)&&de gone&&pN gone (l.map (·.1)))=true:=by exact rfl)(hb:gb (l.map fun x=>(x.2,x.1)) l outs=some back:=by exact Gs)(hp:tV r=false:=by exact rfl)(hz:(C.dN f).contains d=false:=by exact rfl)(hv:ek (l.map fun x=>(x.2,x.1)) r=v:=by exact Ez)(hi:imp [d] v=(v',js):=by exact tQ)(hf:fresh S.h js=true:=by exact rfl)(gr:gX S.h back=yE:=by exact GK)(hw:js++(yE++gone.map fun i=>(i,none))=wr:=by exact spine)(hrd:l.map (·.1)=rd:=by exact spine):bn C f call S g ⟨some d, .call ⟨.value cj,xs,ts⟩,ty,pos,aM,bp⟩=some ⟨[(d,v')],rd,wr⟩:=by subst hrd rR;exact Gz hc hfo dm ha hl ho wv rH hb hp (by simp only[dS,hz,Hm,if_false];exact hv) hi hf (by rw[gr];exact hw)
theorem aF(hc:call dc (.aE obs::uz)=some (r,outs)){rd:List Id}{v0:U}(hfo:un g (S.get C cj)= .fn (.func dc) as bs:=by exact rfl)(dm:C.fP dc=true:=by exact rfl)(ha:as++(xs.toList.map fun x=>un g (S.get C x))++bs=args:=by exact spine)(hl:c5 S.h 60 true [fX] 0 [] args=l:=by exact GJ)(ho:fY S.h l l=some (xk,gone):=by exact JH)(rR:xk=obs:=by exact rfl)(wv:args.map (ek l)=uz:=by exact KZ)(rH:(de (l.map (·.1))&&de (l.map (·.2))&&(l.all fun x=>gK x.2)&&de gone&&pN gone (l.map (·.1)))=true:=by exact rfl)(hb:gb (l.map fun x=>(x.2,x.1)) l outs=some back:=by exact Gs)(hp:tV r=false:=by exact rfl)(hz:(C.dN f).contains d=true:=by exact rfl)(hfl:flat r=true:=by exact BG)(hfz:cS r=v0:=by exact vG)(hv:ek (l.map fun x=>(x.2,x.1)) v0=v:=by exact Ez)(hi:imp [d] v=(v',js):=by exact tQ)(hf:fresh S.h js=true:=by exact rfl)(gr:gX S.h back=yE:=by exact GK)(hw:js++(yE++gone.map fun i=>(i,none))=wr:=by exact spine)(hrd:l.map (·.1)=rd:=by exact spine):bn C f call S g ⟨some d, .call ⟨.value cj,xs,ts⟩,ty,pos,aM,bp⟩=some ⟨[(d,v')],rd,wr⟩:=by subst hrd rR;exact Gz hc hfo dm ha hl ho wv rH hb hp (by simp only[dS,hz,if_true,hfl,hfz];exact hv) hi hf (by rw[gr];exact hw)
end
/-! ### Functions -/
def qH:Nat→List U→List (Nat×U)|_,[]=>[]|i,p::ps=>(i,p)::qH (i+1) ps
theorem Fy:∀(ps:List U)(i t:Nat),cv (fun _=> .aU) (qH i ps) t=if t<i then .aU else ps.getD (t-i) .aU|[],i,t=>by{simp[qH,cv]}|p::ps,i,t=>by simp only[qH,cv,ai];by_cases e:t=i;·{subst e;simp};·rw[Do e,Fy ps (i+1) t];by_cases h1:t<i;·{rw[AC h1,AC (by omega)]};·rw[Do h1,Do (by omega),show t-i=(t-(i+1))+1 by omega];rfl
def sH(C:aB)(f:FuncId)(rv:List ResultVar)(ks:List Id)(r:U)(outs:List U)(x:Exit×ah):Prop:=(x.1= .ret∨x.1= .normal)∧∃S al vs i1 i2,lg (C.nF f) x.2=S∧(ks.filter fun k=>jH (S.h k))=al∧jm C S (jU S.h fun i=>al.contains i) rv=some (vs,i1)∧iO S.h (fun i=>al.contains i) ks=some (outs,i2)∧de (al++(i1++i2))=true∧qv vs=r
section
variable{C:aB}{f:FuncId}{S:ah}{rv:List ResultVar}{ks al:List Id}{vs outs outs' cs cs':List U}{ids is i1 i2:List Id}{r v v' x:U}{p:U→Option (U×List Id)}{L:Id→Option (Option Rows)}{keep:Id→Bool}{rows aV:Rows}{k:Id}{T:TypeId}
theorem X7:jm C S p []=some ([],[]):=rfl
theorem X9{t:Nat}(h:p (un true (S.t t))=some (v,ids))(hr:jm C S p rv=some (vs,is)):jm C S p (.tmp t::rv)=some (v::vs,ids++is):=by show(qC C S p (.tmp t)).bind _=_;simp only[qC,h,GE,hr,Ha]
theorem X8{a m:Nat}{id:Id}{bb:Bool}{r:List U}[ha:cK C T bb m](hx:un true (S.t a)= .mp id 0 0)(hh:S.h id=some (some [r]))(hl:Hb m r.length=true)(hv:gx bb (r.take m)=some v)(h:p v=some (v',ids))(hr:jm C S p rv=some (vs,is)):jm C S p (.cell a T::rv)=some (v'::vs,id::ids++is):=by show(qC C S p (.cell a T)).bind _=_;have hl':0+m≤r.length:=by{have:=Hc hl;omega};simp only[qC,ha.iH,ha.sz,hx,hh,List.getElem?_cons_zero,AC hl',List.drop_zero,hv,GE,h,hr,Ha]
theorem GL:∀{cs:List U},cp cs=true→dF (fz L keep) cs=some (cs,[])|[],_=>rfl|c::cs,h=>by simp only[cp,Hd]at h;simp only[dF,vi h.1,GE,GL h.2,Ha];rfl
theorem P5(hf:flat x=true):jU L keep x=some (x,[]):=by cases x with|agg cs=>(simp only[flat]at hf;simp only[jU,GL hf,Ha])|_=>exact vi (h:=L) (keep:=keep) hf
theorem P3(hx:x= .agg cs:=by exact rfl)(h:dF (fz L keep) cs=some (cs',ids)):jU L keep x=some (.agg cs',ids):=by subst hx;simp only[jU,h,Ha]
def isAgg:U→Bool| .agg _=>true|_=>false
theorem P9(hx:isAgg x=false)(h:fz L keep x=some (v,ids)):jU L keep x=some (v,ids):=by cases x<;>first|exact h|cases hx
theorem Bt{y:Option (U×List Id)}(k:jU L keep x=y:=by(repeat'(first|(refine P5 ?_;exact BG)|(apply P3;exact rfl)|(apply P9;exact rfl)|exact Bh|exact Bi|exact GC|exact Bj|(apply GF;exact rfl;exact rfl;exact jM)|(apply Bk;exact rfl;exact rfl;exact jM)|(apply GD;exact rfl;exact rfl;exact jM)|(apply vi;first|exact rfl|exact Hs|exact Hv|exact Ht)|exact GB|exact vA|(apply vz;exact rfl)));first|done|fail):jU L keep x=y:=k
theorem KM{y:Option (List U×List Id)}(h:jm C S (jU L keep) rv=y:=by repeat'(first|with_reducible exact X7|((with_reducible apply X9);exact Bt)|((with_reducible apply X8);exact rfl;exact rfl;exact rfl;(first|exact zM|exact Di rfl);exact Bt)|((with_reducible apply ace);exact rfl;exact rfl;(first|exact zM|exact Di rfl);exact Bt))):jm C S (jU L keep) rv=y:=h
theorem VZ:iO L keep []=some ([],[]):=rfl
theorem VX(h:L k=some (some rows))(hc:kA L keep rows=some (aV,i1))(hy:iO L keep ks=some (outs,i2)):iO L keep (k::ks)=some (.aP k aV::outs,i1++i2):=by simp[iO,h,hc,hy]
theorem VY(h:jH (L k)=false)(hy:iO L keep ks=some (outs,i2)):iO L keep (k::ks)=some (.aU::outs,i2):=by unfold iO;split;·{rename_i rows e;rw[e]at h;cases h};·rw[hy];rfl
theorem JG{y:Option (List U×List Id)}(h:iO L keep ks=y:=by(repeat'(first|exact VZ|(apply VX;exact rfl;exact GU)|(apply VY;exact rfl)));first|done|fail):iO L keep ks=y:=h
theorem QJ{p:Id→Bool}:GT p []=([]:List Id):=rfl
theorem QO{p:Id→Bool}{k:Id}{ks al:List Id}(h:p k=true)(hy:GT p ks=al):GT p (k::ks)=k::al:=by rw[H0 h,hy]
theorem QT{p:Id→Bool}{k:Id}{ks al:List Id}(h:p k=false)(hy:GT p ks=al):GT p (k::ks)=al:=by rw[Hn (by simp[h]),hy]
theorem Hz{p:Id→Bool}{y:List Id}(h:GT p ks=y:=by(repeat'(first|exact QJ|(apply QO;exact rfl)|(apply QT;exact rfl)));first|done|fail):GT p ks=y:=h
theorem UJ{S:ah}{l:List Id}(hl:l=[]:=by exact rfl):lg l S=S:=by subst hl;rfl
theorem UK{n:Nat}{t:Nat→U}{h:Id→Option (Option Rows)}{l l2:List Id}(hl:l=l2:=by exact spine):lg l ⟨n,t,h⟩=⟨n,t,aQ h (l2.map fun i=>(i,none))⟩:=by subst hl;rfl
theorem I1{S S':ah}{l:List Id}(k:lg l S=S':=by first|exact UJ|exact UK):lg l S=S':=k
theorem cy{eG:ah}(hk:lg (C.nF f) eG=S:=by exact I1)(ha:(ks.filter fun k=>jH (S.h k))=al:=by exact Hz)(h:jm C S (jU S.h fun i=>al.contains i) rv=some (vs,i1):=by exact KM)(ho:iO S.h (fun i=>al.contains i) ks=some (outs',i2):=by exact JG)(rR:outs'=outs:=by exact rfl)(hn:de (al++(i1++i2))=true:=by exact rfl)(hr:qv vs=r:=by exact rfl):sH C f rv ks r outs (.ret,eG):=by subst rR;exact⟨.inl rfl,S,al,vs,i1,i2,hk,ha,h,ho,hn,hr⟩
theorem za{eG:ah}(hk:lg (C.nF f) eG=S:=by exact I1)(ha:(ks.filter fun k=>jH (S.h k))=al:=by exact Hz)(h:jm C S (jU S.h fun i=>al.contains i) rv=some (vs,i1):=by exact KM)(ho:iO S.h (fun i=>al.contains i) ks=some (outs',i2):=by exact JG)(rR:outs'=outs:=by exact rfl)(hn:de (al++(i1++i2))=true:=by exact rfl)(hr:qv vs=r:=by exact rfl):sH C f rv ks r outs (.normal,eG):=by subst rR;exact⟨.inr rfl,S,al,vs,i1,i2,hk,ha,h,ho,hn,hr⟩
theorem ep{fn:Func}{c:Code}{obs args:List U}{hl:List (Id×Rows)}{zs:List (Nat×U)}{nn N:Nat}(hf:C.P.funcs[f]? =some fn)(hn:fn.ntmps=N)(hr:fn.results.toList=rv)(k:kS fX (C.gO f fX) [] (fun eG=>W C f (den C nn) c eG (sH C f rv ks r outs)) ⟨N,cv (fun _=> .aU) zs,gL hl⟩)(hb:fn.body=some c:=by exact rfl)(he:C.ext f=none:=by exact rfl)(dm:C.fP f=true:=by exact rfl)(hl':Hb args.length N=true:=by exact rfl)(hN:Hb N fX=true:=by exact rfl)(ho:qq obs=some hl:=by exact rfl)(hz:qH 0 args=zs:=by exact spine)(hk:hl.map (·.1)=ks:=by exact spine)(hdf:lV C f c=false:=by exact rfl):den C (nn+1) f (.aE obs::args)=some (r,outs):=by obtain⟨eG,h0,aZ,h1,⟨e,s⟩,h2,h3,M6,al,vs,i1,i2,vZ,h4,h5,h6,h7,h8⟩:=k;simp only[iJ,Hk]at h1;subst h1;subst hr hn hz hk;show nG C (den C nn) iy f _=_;unfold nG;simp only[he,hf,hb,dm,if_true];unfold vr;simp only[ho];rw[AC ⟨Hc hl',Hc hN⟩,hdf];simp only[Hm,if_false];have e0:sB fn.ntmps args hl=⟨fn.ntmps,cv (fun _=> .aU) (qH 0 args),gL hl⟩:=by{unfold sB;congr 1;funext t;rw[Fy];simp};rw[e0,h0];simp only[GE,h2];have cL:oC C fn (hl.map (·.1)) (lg (C.nF f) s)=some (r,outs):=by{simp only at vZ;rw[vZ];unfold oC;simp only[h4,h5,h6,h7,if_true];rw[←h8];congr 2;cases vs with|nil=>(rfl)|cons a l=>cases l<;>rfl};rcases h3 with h3|h3;·{simp only at h3;subst h3;exact cL};·simp only at h3;subst h3;exact cL
end
end Go.Ab
namespace Go.Ab
open Go
section
variable{C:aB}{f:FuncId}{call:eV}{S:ah}{A b c:Code}{o0 o1:Oper}{d:Nat}{Q:Exit×ah→Prop}
def ym(C:aB)(f:FuncId)(call:eV)(o0 o1:Oper)(d:Nat)(b:Code)(Q:Exit×ah→Prop)(x:Exit×ah):Prop:=match x.1 with| .normal=>c4 C f call #[o0,o1] 0 [o0] [] x.2 fun _ aZ=>∃k xs cs,aZ.t d= .fn (.func k) xs cs∧C.kH k=true∧W C f call b aZ Q|_=>Q x
theorem Kk(h:c4 C f call #[o0,o1] 0 [o0] [] S fun _ aZ=>∃k xs cs,aZ.t d= .fn (.func k) xs cs∧C.kH k=true∧W C f call b aZ Q):ym C f call o0 o1 d b Q (.normal,S):=h
theorem Kl(h:Q (.ret,S)):ym C f call o0 o1 d b Q (.ret,S):=h
theorem Jp{ks:List gS}{i:Nat}{ops:Array Oper}{k:FuncId}{xs cs:List U}(h:W C f call b S Q)(hd:S.t d= .fn (.func k) xs cs:=by exact rfl)(hk:C.kH k=true:=by exact rfl):c4 C f call ops i [] ks S fun _ aZ=>∃k xs cs,aZ.t d= .fn (.func k) xs cs∧C.kH k=true∧W C f call b aZ Q:=nl ⟨k,xs,cs,hd,hk,h⟩
theorem Qg(k:W C f call A S (ym C f call o0 o1 d b Q))(hs:oX C f c=some (A,o0,o1,d,b))(hb:lV C f b=false):∃x,gq C f call iy c S=some x∧Q x:=by obtain⟨⟨x,aZ⟩,h1,h2⟩:=k;rw[QC c hs,h1];simp only[GE];cases x with|normal=>(obtain⟨⟨cA,ks⟩,h3,k,xs,cs,h4,h5,y,h6,h7⟩:=h2;refine⟨y, ?_,h7⟩;simp only[yY,h3,GE];simp only at h4;rw[h4];simp only[h5,if_true];rw[QB b hb];exact h6)|_=>exact⟨_,rfl,h2⟩
theorem HA{rv:List ResultVar}{ks:List Id}{r:U}{outs:List U}{fn:Func}{obs args:List U}{hl:List (Id×Rows)}{zs:List (Nat×U)}{nn N:Nat}(hf:C.P.funcs[f]? =some fn)(hn:fn.ntmps=N)(hr:fn.results.toList=rv)(k:kS fX (C.gO f fX) [] (fun eG=>W C f (den C nn) A eG (ym C f (den C nn) o0 o1 d b (sH C f rv ks r outs))) ⟨N,cv (fun _=> .aU) zs,gL hl⟩)(hb:fn.body=some c:=by exact rfl)(he:C.ext f=none:=by exact rfl)(dm:C.fP f=true:=by exact rfl)(hl':Hb args.length N=true:=by exact rfl)(hN:Hb N fX=true:=by exact rfl)(ho:qq obs=some hl:=by exact rfl)(hz:qH 0 args=zs:=by exact spine)(hk:hl.map (·.1)=ks:=by exact spine)(hs:oX C f c=some (A,o0,o1,d,b):=by exact rfl)(hdf:lV C f c=true:=by exact rfl)(hdb:lV C f b=false:=by exact rfl):den C (nn+1) f (.aE obs::args)=some (r,outs):=by obtain⟨eG,h0,aZ,h1,h2⟩:=k;simp only[iJ,Hk]at h1;subst h1;obtain⟨⟨e,s⟩,R5,h3,M6,al,vs,i1,i2,vZ,h4,h5,h6,h7,h8⟩:=Qg h2 hs hdb;subst hr hn hz hk;show nG C (den C nn) iy f _=_;unfold nG;simp only[he,hf,hb,dm,if_true];unfold vr;simp only[ho];rw[AC ⟨Hc hl',Hc hN⟩,hdf];simp only[if_true];have e0:sB fn.ntmps args hl=⟨fn.ntmps,cv (fun _=> .aU) (qH 0 args),gL hl⟩:=by{unfold sB;congr 1;funext t;rw[Fy];simp};rw[e0,h0];simp only[GE];rw[R5];simp only[GE];have cL:oC C fn (hl.map (·.1)) (lg (C.nF f) s)=some (r,outs):=by{simp only at vZ;rw[vZ];unfold oC;simp only[h4,h5,h6,h7,if_true];rw[←h8];congr 2;cases vs with|nil=>(rfl)|cons a l=>cases l<;>rfl};rcases h3 with h3|h3;·{simp only at h3;subst h3;exact cL};·simp only at h3;subst h3;exact cL
end
end Go.Ab
namespace Go.Ab
open Go
theorem Ry{n s:Nat}{t:Nat→U}{h:Id→Option (Option Rows)}{rows:Rows}(hs:t s= .sl rows:=by exact rfl):kC ⟨n,t,h⟩ s=some ⟨n,t,h⟩:=by unfold kC;simp only[hs]
section
variable{C:aB}{f:FuncId}{call:eV}{S:ah}{g:Bool}{d:Nat}{t ty:TypeId}{pos:String}{aM:Array Edge}{bp:Option (Nat×Bool)}{x:Operand}
def mN(l:List ByteArray):U:= .sl (l.map fun s=>[.val (.string s)])
theorem Jv{α:Type}{c:α→U}{T:TypeId}{y:Operand}{k:IntKind}{e:TypeId}{m len:Nat}{bb:Bool}{i:Int}{r:α}{q:List α}(hi:idx q i=some r)[hu:cQ C T (.array len e)][hs:cK C e bb m](hx:un g (S.get C x)= .aL (q.map c):=by exact rfl)(hy:un g (S.get C y)= .val (.int k i):=by first|exact rfl|exact bN)(hm:m=1:=by exact rfl)(hl:q.length=len:=by exact rfl):bn C f call S g ⟨some d, .indexAddr T x y,ty,pos,aM,bp⟩=some ⟨[(d, .aL (c r::(q.map c).drop (i.toNat+1)))],[],[]⟩:=by show k3 C S _ T (un g (S.get C x)) (dA (un g (S.get C y)))=_;have hb:=wK hi;have hn:=mb hi;subst hm hl;have hlt:i.toNat<q.length:=by{omega};have e1:(q.map c).drop (i.toNat*1)=c r::(q.map c).drop (i.toNat+1):=by{have:q[i.toNat]=r:=by{rw[List.getElem?_eq_getElem hlt]at hn;simpa using hn};rw[Nat.mul_one,List.drop_eq_getElem_cons (by simpa using hlt)];simp[this]};simp only[hx,hy,dA,k3,hu.ul,hs.sz];rw[AC ⟨hb.1,hb.2,by simp;omega⟩,e1];rfl
end
end Go.Ab
