import Derived.Test.YtbbhbdlljfffdaaGreatDoorAbV7
open Bool renaming false_eq_true→Hd,and_eq_true→Hk
open List renaming filter→GT,map_cons→Hm,getElem?_map→Hn,filter_cons_of_neg→H0,filter_cons_of_pos→H1
open Nat renaming ble→Hb,le_of_ble_eq_true→Hc
open Option renaming bind_some→GE,map_some→Ha
open Option.some renaming injEq→H2
set_option linter.all false
namespace Go.Ab
open Go
/-! ### Maps as lists of pairs -/
section
variable{K V:Type}
def Ly(eq:K→K→Bool):List (K×V)→K→Option V|[],_=>none|e::l,k=>if eq k e.1 then some e.2 else Ly eq l k
end
def TD(a b:ByteArray):Bool:=a==b
class adA{K:Type}(oO:K→Value)(kind:outParam TypeDesc)(eq:outParam (K→K→Bool)):Prop where same:∀a b,Instr.sameNow kind (oO a) (oO b)=some (eq a b)sc:∀a,dc (oO a)=true
section
variable{K V:Type}{oO:K→Value}{ev:V→Value}{kind:TypeDesc}{eq:K→K→Bool}
end
class adD(C:av)(T:TypeId)(kind:outParam TypeDesc)(z:outParam Value):Prop where mt:vA C T=some (kind,z)
section
variable{C:av}{f:FuncId}{call:FuncId→List U→Option (U×List U)}{S:ah}{g:Bool}
variable{d:Nat}{ty:TypeId}{pos:String}{aD:Array Edge}{aS:Option (Nat×Bool)}{x y z:Operand}{T:TypeId}
variable{K V:Type}{oO:K→Value}{ev:V→Value}{kind:TypeDesc}{eq:K→K→Bool}{cx:V}{l:List (K×V)}{k:K}{v:V}{id:Id}
end
end Go.Ab
namespace Go.Ab
open Go
inductive adF(σ bH:Type)where|go(s:σ)|ret(t:bH)|ex(t:bH)
section
variable{C:av}{f:FuncId}{call:eT}{S:ah}{Q:Exit×ah→Prop}{assign body:Code}{α σ bH ρ:Type}{r:ρ}{rep:σ→ah}{iX:bH→ah}{enc:α→List U}{ae3:Operand}{ps:Array Tmp}{j:Nat}
end
section
variable{C:av}{f:FuncId}{call:eT}{c:Code}{Q:Exit×ah→Prop}{n:Nat}{t t2:Nat→U}{h:Id→Option (Option Rows)}{l:List Nat}{vs:List U}{zs:List (Nat×U)}
end
end Go.Ab
namespace Go.Ab
open Go
instance:lM gF:=⟨fun x=>by cases x<;>rfl⟩
instance:p6 gF:=⟨fun x=>by cases x<;>rfl,fun x=>by cases x<;>rfl⟩
instance:wS gF gF:=⟨fun x=>by cases x<;>rfl⟩
theorem aai(o:Option Int):en (ga o)=true:=by cases o<;>rfl
theorem aaj(q:List (Option Int)):(q.map gF).all vK=true:=by induction q with|nil=>(rfl)|cons o q ih=>simp only[Hm,List.all_cons,ih,Bool.and_true,gF];cases o<;>rfl
theorem MB{P:Program}{T e:TypeId}{d:Nat}(hu:P.underlying T=some (.pointer e)):bY P (Op.equalIn (d+1) T (.pointer none) (.pointer none))=some true:=by unfold Op.equalIn;rw[eZ,kQ hu];rfl
section
variable{C:av}{f:FuncId}{call:eT}{S:ah}{g:Bool}{d:Nat}{ty:TypeId}{pos:String}{aD:Array Edge}{aS:Option (Nat×Bool)}
theorem qY{bW x:Operand}{ts:Array TypeId}{cK:FuncId}{cells:List U}{id fE:Id}{n:Nat}{i c:Int}{kids:List Int}{q:List (Option Int)}{el:Option Int}(h1:idx kids i=some c)(h2:idx q c=some el)(hfo:un g (S.get C bW)= .fn (.func cK) [] [.mp id 0 0, .ay cells]:=by exact rfl)(hx:un g (S.get C x)= .val (.int .i64 i):=by first|exact rfl|exact tQ|exact bz)(hlk:C.look cK=true:=by exact rfl)(Et:cells[4]? =some (.sl (kids.map fun k=>[.val (.int .i64 k)])):=by exact rfl)(hid:S.h id=some (some [[.rs fE 0 n]]):=by exact rfl)(sN:S.h fE=some (some (q.map gF)):=by exact rfl)(hn:n=q.length:=by exact pI)(ht:tN C bW=false:=by exact rfl)(pg:pathOf C bW=none:=by exact rfl)(cW:C.fD cK=false:=by exact rfl):aR C f call S g ⟨some d, .call ⟨.value bW, #[x],ts⟩,ty,pos,aD,aS⟩=some ⟨[(d,ga el)],[id,fE],[]⟩:=by rw[AX (Bc hfo cW)];rw[pg];simp only;rw[ht];simp only[Hd,if_false];rw[hfo];have a1:0≤i∧kids[i.toNat]? =some c:=by{unfold idx at h1;split at h1;·{exact⟨by assumption,h1⟩};·cases h1};have a2:0≤c∧q[c.toNat]? =some el:=by{unfold idx at h2;split at h2;·{exact⟨by assumption,h2⟩};·cases h2};have b1:(kids.map fun k=>[U.val (.int .i64 k)])[i.toNat]? =some [.val (.int .i64 c)]:=by{rw[Hn,a1.2];rfl};have b2:(q.map gF)[c.toNat]? =some [ga el]:=by{rw[Hn,a2.2];rfl};simp only[mP,hlk,if_true,Hm,List.map_nil,hx,List.nil_append,List.cons_append,qS,Et,hid,sN,b1,b2];rw[AC ⟨a1.1,a2.1,by rw[hn,List.length_map],aaj q,aai el,rfl⟩];rfl
theorem qZ{x:Operand}{e:Option Int}{n:Int}(he:e=some n)(hx:un g (S.get C x)=ga e:=by first|exact rfl|exact tQ|exact bz):aR C f call S g ⟨some d, .nilCheck x,ty,pos,aD,aS⟩=some ⟨[(d, .ay [I n])],[],[]⟩:=by show uN _ (un g (S.get C x))=_;rw[hx,he];rfl
theorem Zm{x:Operand}{T bP:TypeId}{el:TypeId}{e:Option Int}[hu:cy C T (.pointer el)](hx:un g (S.get C x)=ga e:=by first|exact rfl|exact tQ|exact bz):aR C f call S g ⟨some d, .binOp .eql T x (.const (.pointer none)) bP,ty,pos,aD,aS⟩=some ⟨[(d,B e.isNone)],[],[]⟩:=by show jT C _ .eql T x (.const (.pointer none)) (un g (S.get C x)) (.val (.pointer none))=_;rw[hx];cases e with|none=>(have hb:cV C.P .eql T x (.const (.pointer none)) (.pointer none) (.pointer none)=some (.bool true):=by{show bY C.P (do let b←Op.equalIn (9999+1) T (.pointer none) (.pointer none);pure (Value.bool b))=_;rw[eZ,MB hu.ul];rfl};simp only[jT,ga,jr,hb,iI,dc,ret,put];rfl)|some n=>simp only[jT,ga,jr,hu.ul,Cb];rfl
theorem LZ{x:Operand}{T bP:TypeId}{el:TypeId}{e:Option Int}[hu:cy C T (.pointer el)](hx:un g (S.get C x)=ga e:=by first|exact rfl|exact tQ|exact bz):aR C f call S g ⟨some d, .binOp .neq T x (.const (.pointer none)) bP,ty,pos,aD,aS⟩=some ⟨[(d,B e.isSome)],[],[]⟩:=by show jT C _ .neq T x (.const (.pointer none)) (un g (S.get C x)) (.val (.pointer none))=_;rw[hx];cases e with|none=>(have hb:cV C.P .neq T x (.const (.pointer none)) (.pointer none) (.pointer none)=some (.bool false):=by{show bY C.P (do let b←Op.equalIn (9999+1) T (.pointer none) (.pointer none);pure (Value.bool (!b)))=_;rw[eZ,MB hu.ul];rfl};simp only[jT,ga,jr,hb,iI,dc,ret,put];rfl)|some n=>simp only[jT,ga,jr,hu.ul,Cb];rfl
end
end Go.Ab
namespace Go.Ab
open Go
section
variable{n:Nat}{t:Nat→U}{h L:Id→Option (Option Rows)}
/-! ### Opened, frozen -/
theorem bD{p s row off:Nat}{id:Id}{r r':List U}{x:Id×Option Rows}{wr:List (Id×Option Rows)}(hs:t s= .mp id row off:=by exact rfl)(hid:h id=some (some [r]):=by exact rfl)(hu:bl [p,s] 0 r=(r',x::wr):=by exact zR)(E5:Nat.blt s n=true:=by exact rfl)(hf:fresh h (x::wr)=true:=by exact rfl):pN p ⟨n,t,h⟩ s=some ⟨n,t,aI h ((id,some [r'])::x::wr)⟩:=aah hs hid hu E5 hf
def XW:U→Bool| .rs _ _ _| .bU| .mr _=>true|_=>false
theorem U3{s:Nat}{v v':U}{ids:List Id}{wr:List (Id×Option Rows)}(hl:XW (t s)=true:=by exact rfl)(hp:pk h 9 (t s)=some (v,ids):=by exact jJ)(hf:cI v=v':=by exact xN)(hn:cY ids=true:=by exact rfl)(hw:(ids.map fun i=>(i,none))=wr:=by exact spine):l5 ⟨n,t,h⟩ s=some ⟨n,ai t s v',aI h wr⟩:=by have e:l6 ⟨n,t,h⟩ s=some ⟨n,ai t s v',aI h wr⟩:=by{subst hf hw;simp only[l6,hp,hn,if_true]};rw[←e];cases hts:t s<;>rw[hts]at hl<;>first|(unfold l5;simp only[hts];done)|cases hl
/-! ### Names of what arguments lead to -/
def Lo:U→Bool| .fn _ as cs=> !(as.isEmpty&&cs.isEmpty)| .rs _ _ _=>true| .mp _ _ _=>true| .mr _=>true| .agg _=>true|_=>false
variable{m j:Nat}{b:Bool}{p i:Id}{acc acc' kZ y l:List (Id×Id)}{a:U}{as cs c5:List U}
theorem IP(hx:c5=[])(e:acc=y):c6 L m b p j acc c5=y:=by subst hx;cases m<;>exact e
theorem St(hx:c5=a::as)(hs:Lo a=false)(k:c6 L m b p (j+1) acc as=y):c6 L (m+1) b p j acc c5=y:=by subst hx;cases a with|fn f xs cs=>(simp only[Lo,Bool.not_eq_false',Hk,List.isEmpty_iff]at hs;obtain⟨rfl,rfl⟩:=hs;have e:c6 L m true (j::p) 0 acc ([]++[])=acc:=by{cases m<;>rfl};simp only[c6,e];exact k)|_=>first|exact k|cases hs
theorem Ss{o q:Nat}(hx:c5= .rs i o q::as)(hn:(!b||(eN acc i).isSome)=true)(k:c6 L m b p (j+1) acc as=y):c6 L (m+1) b p j acc c5=y:=by subst hx;simp only[c6,hn];exact k
theorem Sq{o q:Nat}(hx:c5= .mp i o q::as)(hn:(eN acc i).isSome=false)(hh:L i=some (some [cs]))(hl:acc++[(i,j::p)]=acc')(h1:c6 L m false (j::p) 0 acc' cs=kZ)(k:c6 L m b p (j+1) kZ as=y):c6 L (m+1) b p j acc c5=y:=by subst hx hl h1;simp only[c6,hn,hh];exact k
theorem Sr{o q:Nat}(hx:c5= .mp i o q::as)(hn:(eN acc i).isSome=true)(k:c6 L m b p (j+1) acc as=y):c6 L (m+1) b p j acc c5=y:=by subst hx;simp only[c6,hn];exact k
theorem Sn(hx:c5= .agg cs::as)(h1:c6 L m b (j::p) 0 acc cs=kZ)(k:c6 L m b p (j+1) kZ as=y):c6 L (m+1) b p j acc c5=y:=by subst hx h1;simp only[c6];exact k
theorem So{f:Fn}{xs:List U}(hx:c5= .fn f xs cs::as)(h1:c6 L m true (j::p) 0 acc (xs++cs)=kZ)(k:c6 L m b p (j+1) kZ as=y):c6 L (m+1) b p j acc c5=y:=by subst hx h1;simp only[c6];exact k
theorem IQ(k:c6 L m b p j acc c5=y:=by(repeat'(first|((with_reducible apply IP);(with_reducible exact rfl);exact rfl)|((with_reducible apply St);exact rfl;first|exact rfl|exact afI|exact afJ)|((with_reducible apply aec);exact rfl;exact rfl;exact spine)|((with_reducible apply Ss);exact rfl;exact rfl)|((with_reducible apply aea);exact rfl;exact rfl;exact spine)|((with_reducible apply aeb);exact rfl;exact rfl)|((with_reducible apply Sr);exact rfl;exact rfl)|((with_reducible apply Sq);exact rfl;exact rfl;exact rfl;exact spine)|((with_reducible apply Sn);exact rfl)|((with_reducible apply So);exact rfl)|(apply IP;exact rfl;exact rfl)));first|done|fail):c6 L m b p j acc c5=y:=k
/-! ### The objects that go -/
variable{o k:Id}{r l':List (Id×Id)}{rows x1 aL:Rows}{i1 i2 gone ids:List Id}{obs outs:List U}{keep:Id→Bool}{back:List (Id×Option Rows)}
theorem S8(hf:dA rows=true):kA L keep rows=some (rows,[]):=by simp only[kA,hf,if_true]
theorem S9(hf:dA rows=false)(hc:dU (jc L keep) rows=some (aL,ids)):kA L keep rows=some (aL,ids):=by simp[kA,hf,hc]
theorem I2{y:Option (Rows×List Id)}(k:kA L keep rows=y:=by(repeat'(first|(apply S8;first|exact sw _|exact rfl|exact DQ)|(apply aeh;exact rfl;exact rfl;(first|(with_reducible assumption)|assumption);exact inferInstance;rotate_left;exact rfl)|(apply S9;exact rfl)|exact JR|(apply JS;exact rfl)|exact S7|(apply I0;exact rfl)|exact Dq|exact Dr|exact IJ|exact Ds|(apply IL;exact rfl;exact rfl;exact jJ)|(apply Dt;exact rfl;exact rfl;exact jJ)|(apply IK;exact rfl;exact rfl;exact jJ)|(apply xh;first|exact rfl|exact JH|exact JK|exact JI)|exact Dp|exact xH|(apply xG;exact rfl)));first|done|fail):kA L keep rows=y:=k
theorem Zz:fZ L l []=some ([],[]):=rfl
theorem Zy(h:L o=some (some rows))(hc:kA L (pH l) rows=some (x1,i1))(hr:jL l x1=some aL)(hy:fZ L l r=some (obs,gone)):fZ L l ((o,k)::r)=some (.bf k aL::obs,i1++gone):=by simp[fZ,h,hc,hr,hy]
theorem L8{y:Option (List U×List Id)}(k:fZ L l r=y:=by(repeat'(first|exact Zz|(apply Zy;exact rfl;exact I2;(first|exact GD|exact GF|exact GG))));first|done|fail):fZ L l r=y:=k
theorem RA:gh l' [] []=some []:=rfl
theorem Ry(hr:jL l' rows=some aL)(hy:gh l' r outs=some back):gh l' ((o,k)::r) (.bf k rows::outs)=some ((o,some aL)::back):=by simp[gh,hr,hy]
theorem Rz(hy:gh l' r outs=some back):gh l' ((o,k)::r) (.aK::outs)=some ((o,none)::back):=by simp[gh,hy]
theorem Sw:gY L []=[]:=rfl
theorem Sv{x:Id×Option Rows}{fo:List (Id×Option Rows)}(hs:tI L x=true)(k:gY L fo=back):gY L (x::fo)=back:=by unfold gY at*;rw[H0 (by simp[hs])];exact k
theorem Su{x:Id×Option Rows}{fo:List (Id×Option Rows)}(hs:tI L x=false)(k:gY L fo=back):gY L (x::fo)=x::back:=by unfold gY at*;rw[H1 (by simp[hs]),k]
theorem IS{fo:List (Id×Option Rows)}{y:List (Id×Option Rows)}(k:gY L fo=y:=by(repeat'(first|exact Sw|(apply Sv;exact rfl)|(apply Su;first|exact agL|exact rfl)));first|done|fail):gY L fo=y:=k
theorem Iy{y:Option (List (Id×Option Rows))}(k:gh l' r outs=y:=by(repeat'(first|exact RA|(apply Ry;(first|exact GD|exact GF|exact GG))|apply Rz));first|done|fail):gh l' r outs=y:=k
/-! Values under other names -/
theorem abU(hf:flat a=true):dW l a=a:=by cases a with|agg cs=>(simp only[flat]at hf;simp[dW,zv hf])|aG cs=>(simp only[flat]at hf;simp[dW,zv hf])|fn f as cs=>(simp only[flat,Hk]at hf;simp[dW,zv hf.1,zv hf.2])|rs _ _ _=>(simp[flat]at hf)|mp _ _ _=>(simp[flat]at hf)|mr _=>(simp[flat]at hf)|cv _ _=>(simp[flat]at hf)|bU=>(simp[flat]at hf)|_=>simp only[dW,ny,tG];rw[AC hf]
theorem TY(hf:cg cs=true):flat (.agg cs)=true:=hf
theorem T9(hf:cg cs=true):flat (.aG cs)=true:=hf
theorem T0{α:Type}{c:α→List U}{x:α}[hc:lM c]:cg (c x)=true:=hc.fl x
theorem DT{a:U}(k:flat a=true:=by(repeat'(first|exact rfl|exact TZ|exact T5|exact JJ|(with_reducible apply TY)|(with_reducible apply T9)|exact T0|exact T4|(apply JG;exact rfl)));first|done|fail):flat a=true:=k
theorem GN{a':U}(k:dW l a=a':=by first|(refine abU ?_;exact DT)|exact rfl):dW l a=a':=k
theorem abJ(hx:c5=[]:=by exact rfl):c5.map (dW l)=[]:=by subst hx;rfl
theorem abI{a':U}{bs:List U}(hx:c5=a::as)(h:dW l a=a')(k:as.map (dW l)=bs):c5.map (dW l)=a'::bs:=by subst hx h k;rfl
theorem Nr{bs:List U}(k:c5.map (dW l)=bs:=by(repeat'(first|exact abJ|(apply abI;exact rfl;exact GN)));first|done|fail):c5.map (dW l)=bs:=k
end
section
variable{C:av}{f:FuncId}{call:eT}{S:ah}{g:Bool}{d:Nat}{ty:TypeId}{pos:String}{aD:Array Edge}{aS:Option (Nat×Bool)}
variable{bW:Operand}{ts:Array TypeId}{cK:FuncId}{as bs args vT obs outs zb agt:List U}{l:List (Id×Id)}{gone:List Id}{r v v':U}{back Az jt wr:List (Id×Option Rows)}{xs:Array Operand}
theorem TN{d':Option Tmp}(hfo:un g (S.get C bW)= .fn (.func cK) as bs)(cW:C.fD cK=true):aR C f call S g ⟨d', .call ⟨.value bW,xs,ts⟩,ty,pos,aD,aS⟩=mQ C f call S ⟨d', .call ⟨.value bW,xs,ts⟩,ty,pos,aD,aS⟩ cK (as++(xs.toList.map fun x=>un g (S.get C x))++bs):=by show(match kF C (un g (S.get C bW))with|some x=>mQ C f call S _ x.1 (x.2.1++(xs.toList.map fun x=>un g (S.get C x))++x.2.2)|none=>_)=_;have:kF C (un g (S.get C bW))=some (cK,as,bs):=by{rw[hfo];simp[kF,cW]};rw[this]
theorem IG(hc:call cK (.aG obs::vT)=some (r,outs))(hfo:un g (S.get C bW)= .fn (.func cK) as bs)(cW:C.fD cK=true)(ha:as++(xs.toList.map fun x=>un g (S.get C x))++bs=args)(hl:c6 S.h 60 true [fY] 0 [] args=l)(ho:fZ S.h l l=some (obs,gone))(ym:args.map (dW l)=vT)(sI:(cY (l.map (·.1))&&cY (l.map (·.2))&&(l.all fun x=>gL x.2)&&cY gone&&qi gone (l.map (·.1)))=true)(hb:gh (l.map fun x=>(x.2,x.1)) l outs=some back)(hp:vr r=false)(hv:dW (l.map fun x=>(x.2,x.1)) (if dI C f (some d)then(if flat r then cI r else .aK)else r)=v)(hi:imp [d] v=(v',jt))(hf:fresh S.h jt=true)(hw:jt++(gY S.h back++gone.map fun i=>(i,none))=wr):aR C f call S g ⟨some d, .call ⟨.value bW,xs,ts⟩,ty,pos,aD,aS⟩=some ⟨[(d,v')],l.map (·.1),wr⟩:=by rw[TN hfo cW,ha];subst hw;have e:nY call S.h cK args=some ⟨r,l,back,gone⟩:=by{unfold nY xO;rw[hl,ho];simp only[sI,if_true,ym,hc,hb,Ha]};unfold mQ;rw[e];simp only[GE,hp,Hd,if_false,gv,hv,hi,hf,if_true];rfl
theorem fF(hc:call cK (.aG obs::vT)=some (r,outs)){rd:List Id}(hfo:un g (S.get C bW)= .fn (.func cK) as bs:=by exact rfl)(cW:C.fD cK=true:=by exact rfl)(ha:as++(xs.toList.map fun x=>un g (S.get C x))++bs=args:=by exact spine)(hl:c6 S.h 60 true [fY] 0 [] args=l:=by exact IQ)(ho:fZ S.h l l=some (zb,gone):=by exact L8)(sU:zb=obs:=by exact rfl)(ym:args.map (dW l)=vT:=by exact Nr)(sI:(cY (l.map (·.1))&&cY (l.map (·.2))&&(l.all fun x=>gL x.2)&&cY gone&&qi gone (l.map (·.1)))=true:=by exact rfl)(hb:gh (l.map fun x=>(x.2,x.1)) l outs=some back:=by exact Iy)(hp:vr r=false:=by exact rfl)(hz:(C.dB f).contains d=false:=by exact rfl)(hv:dW (l.map fun x=>(x.2,x.1)) r=v:=by exact GN)(hi:imp [d] v=(v',jt):=by exact vm)(hf:fresh S.h jt=true:=by exact rfl)(gx:gY S.h back=Az:=by exact IS)(hw:jt++(Az++gone.map fun i=>(i,none))=wr:=by exact spine)(hrd:l.map (·.1)=rd:=by exact spine):aR C f call S g ⟨some d, .call ⟨.value bW,xs,ts⟩,ty,pos,aD,aS⟩=some ⟨[(d,v')],rd,wr⟩:=by subst hrd sU;exact IG hc hfo cW ha hl ho ym sI hb hp (by simp only[dI,hz,Hd,if_false];exact hv) hi hf (by rw[gx];exact hw)
theorem cA(hc:call cK (.aG obs::vT)=some (r,outs)){rd:List Id}{v0:U}(hfo:un g (S.get C bW)= .fn (.func cK) as bs:=by exact rfl)(cW:C.fD cK=true:=by exact rfl)(ha:as++(xs.toList.map fun x=>un g (S.get C x))++bs=args:=by exact spine)(hl:c6 S.h 60 true [fY] 0 [] args=l:=by exact IQ)(ho:fZ S.h l l=some (zb,gone):=by exact L8)(sU:zb=obs:=by exact rfl)(ym:args.map (dW l)=vT:=by exact Nr)(sI:(cY (l.map (·.1))&&cY (l.map (·.2))&&(l.all fun x=>gL x.2)&&cY gone&&qi gone (l.map (·.1)))=true:=by exact rfl)(hb:gh (l.map fun x=>(x.2,x.1)) l outs=some back:=by exact Iy)(hp:vr r=false:=by exact rfl)(hz:(C.dB f).contains d=true:=by exact rfl)(hfl:flat r=true:=by exact DT)(hfz:cI r=v0:=by exact xN)(hv:dW (l.map fun x=>(x.2,x.1)) v0=v:=by exact GN)(hi:imp [d] v=(v',jt):=by exact vm)(hf:fresh S.h jt=true:=by exact rfl)(gx:gY S.h back=Az:=by exact IS)(hw:jt++(Az++gone.map fun i=>(i,none))=wr:=by exact spine)(hrd:l.map (·.1)=rd:=by exact spine):aR C f call S g ⟨some d, .call ⟨.value bW,xs,ts⟩,ty,pos,aD,aS⟩=some ⟨[(d,v')],rd,wr⟩:=by subst hrd sU;exact IG hc hfo cW ha hl ho ym sI hb hp (by simp only[dI,hz,if_true,hfl,hfz];exact hv) hi hf (by rw[gx];exact hw)
end
/-! ### Functions -/
def rE:Nat→List U→List (Nat×U)|_,[]=>[]|i,p::ps=>(i,p)::rE (i+1) ps
theorem HD:∀(ps:List U)(i t:Nat),cm (fun _=> .aK) (rE i ps) t=if t<i then .aK else ps.getD (t-i) .aK|[],i,t=>by{simp[rE,cm]}|p::ps,i,t=>by simp only[rE,cm,ai];by_cases e:t=i;·{subst e;simp};·rw[Do e,HD ps (i+1) t];by_cases h1:t<i;·{rw[AC h1,AC (by omega)]};·rw[Do h1,Do (by omega),show t-i=(t-(i+1))+1 by omega];rfl
def tV(C:av)(f:FuncId)(rv:List ResultVar)(ks:List Id)(r:U)(outs:List U)(x:Exit×ah):Prop:=(x.1= .ret∨x.1= .normal)∧∃S al vs i1 i2,lq (C.nT f) x.2=S∧(ks.filter fun k=>jD (S.h k))=al∧jn C S (jR S.h fun i=>al.contains i) rv=some (vs,i1)∧iU S.h (fun i=>al.contains i) ks=some (outs,i2)∧cY (al++(i1++i2))=true∧q6 vs=r
section
variable{C:av}{f:FuncId}{S:ah}{rv:List ResultVar}{ks al:List Id}{vs outs outs' cs cs':List U}{ids is i1 i2:List Id}{r v v' x:U}{p:U→Option (U×List Id)}{L:Id→Option (Option Rows)}{keep:Id→Bool}{rows aL:Rows}{k:Id}{T:TypeId}
theorem abO:jn C S p []=some ([],[]):=rfl
theorem abQ{t:Nat}(h:p (un true (S.t t))=some (v,ids))(hr:jn C S p rv=some (vs,is)):jn C S p (.tmp t::rv)=some (v::vs,ids++is):=by show(rj C S p (.tmp t)).bind _=_;simp only[rj,h,GE,hr,Ha]
theorem abP{a m:Nat}{id:Id}{bb:Bool}{r:List U}[ha:cu C T bb m](hx:un true (S.t a)= .mp id 0 0)(hh:S.h id=some (some [r]))(hl:Hb m r.length=true)(hv:gN bb (r.take m)=some v)(h:p v=some (v',ids))(hr:jn C S p rv=some (vs,is)):jn C S p (.cell a T::rv)=some (v'::vs,id::ids++is):=by show(rj C S p (.cell a T)).bind _=_;have hl':0+m≤r.length:=by{have:=Hc hl;omega};simp only[rj,ha.ja,ha.sz,hx,hh,List.getElem?_cons_zero,AC hl',List.drop_zero,hv,GE,h,hr,Ha]
theorem IT:∀{cs:List U},cg cs=true→dm (e5 L keep) cs=some (cs,[])|[],_=>rfl|c::cs,h=>by simp only[cg,Hk]at h;simp only[dm,xh h.1,GE,IT h.2,Ha];rfl
theorem Te(hf:flat x=true):jR L keep x=some (x,[]):=by cases x with|agg cs=>(simp only[flat]at hf;simp only[jR,IT hf,Ha])|_=>exact xh (h:=L) (keep:=keep) hf
theorem Tc(hx:x= .agg cs:=by exact rfl)(h:dm (e5 L keep) cs=some (cs',ids)):jR L keep x=some (.agg cs',ids):=by subst hx;simp only[jR,h,Ha]
def isAgg:U→Bool| .agg _=>true|_=>false
theorem Ti(hx:isAgg x=false)(h:e5 L keep x=some (v,ids)):jR L keep x=some (v,ids):=by cases x<;>first|exact h|cases hx
theorem DE{y:Option (U×List Id)}(k:jR L keep x=y:=by(repeat'(first|(refine Te ?_;exact DT)|(apply Tc;exact rfl)|(apply Ti;exact rfl)|exact Dq|exact Dr|exact IJ|exact Ds|(apply IL;exact rfl;exact rfl;exact jJ)|(apply Dt;exact rfl;exact rfl;exact jJ)|(apply IK;exact rfl;exact rfl;exact jJ)|(apply xh;first|exact rfl|exact JH|exact JK|exact JI)|exact Dp|exact xH|(apply xG;exact rfl)));first|done|fail):jR L keep x=y:=k
theorem Nc{y:Option (List U×List Id)}(h:jn C S (jR L keep) rv=y:=by repeat'(first|with_reducible exact abO|((with_reducible apply abQ);exact DE)|((with_reducible apply abP);exact rfl;exact rfl;exact rfl;(first|exact BL|exact FI rfl);exact DE)|((with_reducible apply agD);exact rfl;exact rfl;(first|exact BL|exact FI rfl);exact DE))):jn C S (jR L keep) rv=y:=h
theorem Zu:iU L keep []=some ([],[]):=rfl
theorem Zs(h:L k=some (some rows))(hc:kA L keep rows=some (aL,i1))(hy:iU L keep ks=some (outs,i2)):iU L keep (k::ks)=some (.bf k aL::outs,i1++i2):=by simp[iU,h,hc,hy]
theorem Zt(h:jD (L k)=false)(hy:iU L keep ks=some (outs,i2)):iU L keep (k::ks)=some (.aK::outs,i2):=by unfold iU;split;·{rename_i rows e;rw[e]at h;cases h};·rw[hy];rfl
theorem L7{y:Option (List U×List Id)}(h:iU L keep ks=y:=by(repeat'(first|exact Zu|(apply Zs;exact rfl;exact I2)|(apply Zt;exact rfl)));first|done|fail):iU L keep ks=y:=h
theorem T3{p:Id→Bool}:GT p []=([]:List Id):=rfl
theorem T8{p:Id→Bool}{k:Id}{ks al:List Id}(h:p k=true)(hy:GT p ks=al):GT p (k::ks)=k::al:=by rw[H1 h,hy]
theorem Ua{p:Id→Bool}{k:Id}{ks al:List Id}(h:p k=false)(hy:GT p ks=al):GT p (k::ks)=al:=by rw[H0 (by simp[h]),hy]
theorem JP{p:Id→Bool}{y:List Id}(h:GT p ks=y:=by(repeat'(first|exact T3|(apply T8;exact rfl)|(apply Ua;exact rfl)));first|done|fail):GT p ks=y:=h
theorem X9{S:ah}{l:List Id}(hl:l=[]:=by exact rfl):lq l S=S:=by subst hl;rfl
theorem Ya{n:Nat}{t:Nat→U}{h:Id→Option (Option Rows)}{l l2:List Id}(hl:l=l2:=by exact spine):lq l ⟨n,t,h⟩=⟨n,t,aI h (l2.map fun i=>(i,none))⟩:=by subst hl;rfl
theorem Lg{S S':ah}{l:List Id}(k:lq l S=S':=by first|exact X9|exact Ya):lq l S=S':=k
theorem dO{eD:ah}(hk:lq (C.nT f) eD=S:=by exact Lg)(ha:(ks.filter fun k=>jD (S.h k))=al:=by exact JP)(h:jn C S (jR S.h fun i=>al.contains i) rv=some (vs,i1):=by exact Nc)(ho:iU S.h (fun i=>al.contains i) ks=some (outs',i2):=by exact L7)(sU:outs'=outs:=by exact rfl)(hn:cY (al++(i1++i2))=true:=by exact rfl)(hr:q6 vs=r:=by exact rfl):tV C f rv ks r outs (.ret,eD):=by subst sU;exact⟨.inl rfl,S,al,vs,i1,i2,hk,ha,h,ho,hn,hr⟩
theorem D4{eD:ah}(hk:lq (C.nT f) eD=S:=by exact Lg)(ha:(ks.filter fun k=>jD (S.h k))=al:=by exact JP)(h:jn C S (jR S.h fun i=>al.contains i) rv=some (vs,i1):=by exact Nc)(ho:iU S.h (fun i=>al.contains i) ks=some (outs',i2):=by exact L7)(sU:outs'=outs:=by exact rfl)(hn:cY (al++(i1++i2))=true:=by exact rfl)(hr:q6 vs=r:=by exact rfl):tV C f rv ks r outs (.normal,eD):=by subst sU;exact⟨.inr rfl,S,al,vs,i1,i2,hk,ha,h,ho,hn,hr⟩
theorem gj{fn:Func}{c:Code}{obs args:List U}{hl:List (Id×Rows)}{zs:List (Nat×U)}{nn N:Nat}(hf:C.P.funcs[f]? =some fn)(hn:fn.ntmps=N)(hr:fn.results.toList=rv)(k:kW fY (C.gP f fY) [] (fun eD=>W C f (den C nn) c eD (tV C f rv ks r outs)) ⟨N,cm (fun _=> .aK) zs,gM hl⟩)(hb:fn.body=some c:=by exact rfl)(he:C.ext f=none:=by exact rfl)(cW:C.fD f=true:=by exact rfl)(hl':Hb args.length N=true:=by exact rfl)(hN:Hb N fY=true:=by exact rfl)(ho:q2 obs=some hl:=by exact rfl)(hz:rE 0 args=zs:=by exact spine)(hk:hl.map (·.1)=ks:=by exact spine)(hdf:lV C f c=false:=by exact rfl):den C (nn+1) f (.aG obs::args)=some (r,outs):=by obtain⟨eD,h0,aT,h1,⟨e,s⟩,h2,h3,PX,al,vs,i1,i2,x7,h4,h5,h6,h7,h8⟩:=k;simp only[iP,H2]at h1;subst h1;subst hr hn hz hk;show nU C (den C nn) iC f _=_;unfold nU;simp only[he,hf,hb,cW,if_true];unfold xB;simp only[ho];rw[AC ⟨Hc hl',Hc hN⟩,hdf];simp only[Hd,if_false];have e0:tL fn.ntmps args hl=⟨fn.ntmps,cm (fun _=> .aK) (rE 0 args),gM hl⟩:=by{unfold tL;congr 1;funext t;rw[HD];simp};rw[e0,h0];simp only[GE,h2];have cz:oX C fn (hl.map (·.1)) (lq (C.nT f) s)=some (r,outs):=by{simp only at x7;rw[x7];unfold oX;simp only[h4,h5,h6,h7,if_true];rw[←h8];congr 2;cases vs with|nil=>(rfl)|cons a l=>cases l<;>rfl};rcases h3 with h3|h3;·{simp only at h3;subst h3;exact cz};·simp only at h3;subst h3;exact cz
end
end Go.Ab
namespace Go.Ab
open Go
section
variable{C:av}{f:FuncId}{call:eT}{S:ah}{A b c:Code}{o0 o1:Oper}{d:Nat}{Q:Exit×ah→Prop}
def Ai(C:av)(f:FuncId)(call:eT)(o0 o1:Oper)(d:Nat)(b:Code)(Q:Exit×ah→Prop)(x:Exit×ah):Prop:=match x.1 with| .normal=>cR C f call #[o0,o1] 0 [o0] [] x.2 fun _ aT=>∃k xs cs,aT.t d= .fn (.func k) xs cs∧C.kL k=true∧W C f call b aT Q|_=>Q x
theorem abf(h:cR C f call #[o0,o1] 0 [o0] [] S fun _ aT=>∃k xs cs,aT.t d= .fn (.func k) xs cs∧C.kL k=true∧W C f call b aT Q):Ai C f call o0 o1 d b Q (.normal,S):=h
theorem abg(h:Q (.ret,S)):Ai C f call o0 o1 d b Q (.ret,S):=h
theorem YV{ks:List gV}{i:Nat}{ops:Array Oper}{k:FuncId}{xs cs:List U}(h:W C f call b S Q)(hd:S.t d= .fn (.func k) xs cs:=by exact rfl)(hk:C.kL k=true:=by exact rfl):cR C f call ops i [] ks S fun _ aT=>∃k xs cs,aT.t d= .fn (.func k) xs cs∧C.kL k=true∧W C f call b aT Q:=nl ⟨k,xs,cs,hd,hk,h⟩
theorem Tt(k:W C f call A S (Ai C f call o0 o1 d b Q))(hs:pT C f c=some (A,o0,o1,d,b))(hb:lV C f b=false):∃x,gw C f call iC c S=some x∧Q x:=by obtain⟨⟨x,aT⟩,h1,h2⟩:=k;rw[TS c hs,h1];simp only[GE];cases x with|normal=>(obtain⟨⟨cr,ks⟩,h3,k,xs,cs,h4,h5,y,h6,h7⟩:=h2;refine⟨y, ?_,h7⟩;simp only[AZ,h3,GE];simp only at h4;rw[h4];simp only[h5,if_true];rw[TR b hb];exact h6)|_=>exact⟨_,rfl,h2⟩
theorem Uo{rv:List ResultVar}{ks:List Id}{r:U}{outs:List U}{fn:Func}{obs args:List U}{hl:List (Id×Rows)}{zs:List (Nat×U)}{nn N:Nat}(hf:C.P.funcs[f]? =some fn)(hn:fn.ntmps=N)(hr:fn.results.toList=rv)(k:kW fY (C.gP f fY) [] (fun eD=>W C f (den C nn) A eD (Ai C f (den C nn) o0 o1 d b (tV C f rv ks r outs))) ⟨N,cm (fun _=> .aK) zs,gM hl⟩)(hb:fn.body=some c:=by exact rfl)(he:C.ext f=none:=by exact rfl)(cW:C.fD f=true:=by exact rfl)(hl':Hb args.length N=true:=by exact rfl)(hN:Hb N fY=true:=by exact rfl)(ho:q2 obs=some hl:=by exact rfl)(hz:rE 0 args=zs:=by exact spine)(hk:hl.map (·.1)=ks:=by exact spine)(hs:pT C f c=some (A,o0,o1,d,b):=by exact rfl)(hdf:lV C f c=true:=by exact rfl)(hdb:lV C f b=false:=by exact rfl):den C (nn+1) f (.aG obs::args)=some (r,outs):=by obtain⟨eD,h0,aT,h1,h2⟩:=k;simp only[iP,H2]at h1;subst h1;obtain⟨⟨e,s⟩,Vs,h3,PX,al,vs,i1,i2,x7,h4,h5,h6,h7,h8⟩:=Tt h2 hs hdb;subst hr hn hz hk;show nU C (den C nn) iC f _=_;unfold nU;simp only[he,hf,hb,cW,if_true];unfold xB;simp only[ho];rw[AC ⟨Hc hl',Hc hN⟩,hdf];simp only[if_true];have e0:tL fn.ntmps args hl=⟨fn.ntmps,cm (fun _=> .aK) (rE 0 args),gM hl⟩:=by{unfold tL;congr 1;funext t;rw[HD];simp};rw[e0,h0];simp only[GE];rw[Vs];simp only[GE];have cz:oX C fn (hl.map (·.1)) (lq (C.nT f) s)=some (r,outs):=by{simp only at x7;rw[x7];unfold oX;simp only[h4,h5,h6,h7,if_true];rw[←h8];congr 2;cases vs with|nil=>(rfl)|cons a l=>cases l<;>rfl};rcases h3 with h3|h3;·{simp only at h3;subst h3;exact cz};·simp only at h3;subst h3;exact cz
end
end Go.Ab
namespace Go.Ab
open Go
section
variable{C:av}{f:FuncId}{call:eT}{S:ah}{g:Bool}{d:Nat}{t ty:TypeId}{pos:String}{aD:Array Edge}{aS:Option (Nat×Bool)}{x:Operand}
def mY(l:List ByteArray):U:= .sl (l.map fun s=>[.val (.string s)])
theorem LU{α:Type}{c:α→U}{T:TypeId}{y:Operand}{k:IntKind}{e:TypeId}{m len:Nat}{bb:Bool}{i:Int}{r:α}{q:List α}(hi:idx q i=some r)[hu:cy C T (.array len e)][hs:cu C e bb m](hx:un g (S.get C x)= .ay (q.map c):=by exact rfl)(hy:un g (S.get C y)= .val (.int k i):=by first|exact rfl|exact bz)(hm:m=1:=by exact rfl)(hl:q.length=len:=by exact rfl):aR C f call S g ⟨some d, .indexAddr T x y,ty,pos,aD,aS⟩=some ⟨[(d, .ay (c r::(q.map c).drop (i.toNat+1)))],[],[]⟩:=by show k6 C S _ T (un g (S.get C x)) (dr (un g (S.get C y)))=_;have hb:=yE hi;have hn:=gK hi;subst hm hl;have hlt:i.toNat<q.length:=by{omega};have e1:(q.map c).drop (i.toNat*1)=c r::(q.map c).drop (i.toNat+1):=by{have:q[i.toNat]=r:=by{rw[List.getElem?_eq_getElem hlt]at hn;simpa using hn};rw[Nat.mul_one,List.drop_eq_getElem_cons (by simpa using hlt)];simp[this]};simp only[hx,hy,dr,k6,hu.ul,hs.sz];rw[AC ⟨hb.1,hb.2,by simp;omega⟩,e1];rfl
end
end Go.Ab
