import Derived.Test.YtbbhbdlljfffdaaGreatDoorAbV7
open Bool renaming false_eq_true->Hd,and_eq_true->Hk
open List renaming filter->Do,map_cons->GT,getElem?_map->Hm,filter_cons_of_neg->Hn,filter_cons_of_pos->H0
open Nat renaming ble->Hb,le_of_ble_eq_true->Hc
open Option renaming bind_some->AC,map_some->GE
open Option.some renaming injEq->Ha
set_option linter.all false
namespace Go.Ab
open Go
/-! ### Maps as lists of pairs -/
section
variable{K V:Type}
def fV(eq:K->K->Bool):List (K×V)->K->Option V|[],_=>none|e::l,k=>if eq k e.1 then some e.2 else fV eq l k
def oq(eq:K->K->Bool):List (K×V)->K->V->List (K×V)|[],k,v=>[(k,v)]|e::l,k,v=>if eq k e.1 then(k,v)::l else e::oq eq l k v
end
def rZ(a b:Int):Bool:=a==b
def jw(a b:ByteArray):Bool:=a==b
theorem Qr{a b:ByteArray}:jw a b=true↔a=b:=⟨Pe,fun h=>by subst h;exact Pf _⟩
class uJ{K:Type}(eN:K->Value)(kind:outParam TypeDesc)(eq:outParam (K->K->Bool)):Prop where same:∀a b,Instr.sameNow kind (eN a) (eN b)=some (eq a b)sc:∀a,eo (eN a)=true
class I0{V:Type}(ev:V->Value):Prop where sc:∀a,eo (ev a)=true
def pH(n:Int):Value:= .int .i64 n
def y6(s:ByteArray):Value:= .string s
def BB(b:Bool):Value:= .bool b
instance:uJ pH (.int .i64) rZ:=⟨fun a b=>rfl,fun _=>rfl⟩
instance:uJ y6 .string jw:=⟨fun _ _=>rfl,fun _=>rfl⟩
instance:I0 pH:=⟨fun _=>rfl⟩
instance:I0 BB:=⟨fun _=>rfl⟩
def mQ{K V:Type}(eN:K->Value)(ev:V->Value)(e:K×V):List U:=[.val (eN e.1), .val (ev e.2)]
section
variable{K V:Type}{eN:K->Value}{ev:V->Value}{kind:TypeDesc}{eq:K->K->Bool}
theorem F6 [hk:uJ eN kind eq]:∀(l:List (K×V))(k:K),p6 kind (eN k) (l.map (mQ eN ev))=some ((fV eq l k).map ev)|[],_=>rfl|e::l,k=>by simp only[GT,mQ,p6,hk.same,fV];cases h:eq k e.1 with|true=>(rfl)|false=>simpa[mQ]using F6 l k
theorem Uo [hk:uJ eN kind eq]:∀(l:List (K×V))(k:K)(v:V),yC kind (eN k) (ev v) (l.map (mQ eN ev))=some ((oq eq l k v).map (mQ eN ev))|[],_,_=>rfl|e::l,k,v=>by simp only[GT,mQ,yC,hk.same,oq];cases h:eq k e.1 with|true=>(rfl)|false=>have:=Uo l k v;simp[this,mQ]
end
class wM(C:aF)(T:TypeId)(kind:outParam TypeDesc)(z:outParam Value):Prop where mt:AP C T=some (kind,z)
section
variable{C:aF}{f:FuncId}{call:FuncId->List U->Option (U×List U)}{S:ah}{g:Bool}
variable{d:Nat}{ty:TypeId}{pos:String}{aQ:Array Edge}{bn:Option (Nat×Bool)}{x y z:Operand}{T:TypeId}
variable{K V:Type}{eN:K->Value}{ev:V->Value}{kind:TypeDesc}{eq:K->K->Bool}{cL:V}{l:List (K×V)}{k:K}{v:V}{id:Id}
theorem Mv{z0:Value}[hm:wM C T kind z0](hf:S.h [d]=none:=by exact rfl):bk C f call S g ⟨some d, .makeMap T none,ty,pos,aQ,bn⟩=some ⟨[(d, .mr [d])],[],[([d],some [])]⟩:=by show tD C S _ T none=_;simp[tD,hm.mt,hf,put]
theorem Tw [hm:wM C T kind (ev cL)][hk:uJ eN kind eq](hx:un g (S.get C x)= .mr id:=by first|exact rfl|exact bG)(hh:S.h id=some (some (l.map (mQ eN ev))):=by exact rfl)(hy:un g (S.get C y)= .val (eN k):=by first|exact rfl|exact bG):bk C f call S g ⟨some d, .lookup T x y true,ty,pos,aQ,bn⟩=some ⟨[(d, .aU [.val (ev ((fV eq l k).getD cL)),B (fV eq l k).isSome])],[id],[]⟩:=by show oN C S _ T (un g (S.get C x)) (un g (S.get C y)) true=_;rw[hx,hy];simp only[oN,hm.mt,vG,hh,F6];cases fV eq l k<;>rfl
theorem ahY [hm:wM C T kind (ev cL)][hk:uJ eN kind eq](hx:un g (S.get C x)= .mr id:=by first|exact rfl|exact bG)(hh:S.h id=some (some (l.map (mQ eN ev))):=by exact rfl)(hy:un g (S.get C y)= .val (eN k):=by first|exact rfl|exact bG):bk C f call S g ⟨some d, .lookup T x y false,ty,pos,aQ,bn⟩=some ⟨[(d, .val (ev ((fV eq l k).getD cL)))],[id],[]⟩:=by show oN C S _ T (un g (S.get C x)) (un g (S.get C y)) false=_;rw[hx,hy];simp only[oN,hm.mt,vG,hh,F6];cases fV eq l k<;>rfl
theorem ahX [hm:wM C T kind (ev cL)][hk:uJ eN kind eq](hx:un g (S.get C x)= .im (l.map (mQ eN ev)):=by first|exact rfl|exact bG)(hy:un g (S.get C y)= .val (eN k):=by first|exact rfl|exact bG):bk C f call S g ⟨some d, .lookup T x y true,ty,pos,aQ,bn⟩=some ⟨[(d, .aU [.val (ev ((fV eq l k).getD cL)),B (fV eq l k).isSome])],[],[]⟩:=by show oN C S _ T (un g (S.get C x)) (un g (S.get C y)) true=_;rw[hx,hy];simp only[oN,hm.mt,vG,F6];cases fV eq l k<;>rfl
theorem TB{z0:Value}[hm:wM C T kind z0][hk:uJ eN kind eq][hv:I0 ev](hx:un g (S.get C x)= .mr id:=by first|exact rfl|exact bG)(hh:S.h id=some (some (l.map (mQ eN ev))):=by exact rfl)(hy:un g (S.get C y)= .val (eN k):=by first|exact rfl|exact bG)(hz:un g (S.get C z)= .val (ev v):=by first|exact rfl|exact bG):bk C f call S g ⟨none, .mapUpdate T x y z,ty,pos,aQ,bn⟩=some ⟨[],[id],[(id,some ((oq eq l k v).map (mQ eN ev)))]⟩:=by show qT C S _ T (un g (S.get C x)) (un g (S.get C y)) (un g (S.get C z))=_;rw[hx,hy,hz];simp[qT,hm.mt,hh,Uo,hk.sc,hv.sc,put]
end
open Go
inductive fu(σ bI:Type)where|go(s:σ)|ret(t:bI)|ex(t:bI)
def eH{α σ bI:Type}(step:α->σ->Option (fu σ bI)):List α->σ->Option (fu σ bI)|[],s=>some (.go s)|y::ys,s=>(step y s).bind fun z=>match z with| .go s'=>eH step ys s'|z=>some z
def fu.on{σ bI ρ:Type}(yd:σ->Option ρ)(qo yc:bI->Option ρ):fu σ bI->Option ρ| .go s=>yd s| .ret s=>qo s| .ex s=>yc s
section
variable{C:aF}{f:FuncId}{call:fZ}{S:ah}{Q:Exit×ah->Prop}{assign body:Code}{α σ bI ρ:Type}{r:ρ}{rep:σ->ah}{fL:bI->ah}{enc:α->List U}{aR:Operand}{ps:Array Tmp}{j:Nat}
def E8(o:Option (Bool×List Nat))(rep:σ->ah)(fL:bI->ah)(j:Nat)(z:fu σ bI)(x:Exit×ah):Prop:=match z with| .go s=>x.1= .normal∧dr o x.2=some (rep s)| .ret s=>x.1= .ret∧dr o x.2=some (fL s)| .ex s=>x.1= .exit j∧dr o x.2=some (fL s)
def IV(C:aF)(f:FuncId)(call:fZ)(body:Code)(Q:Exit×ah->Prop)(x:Exit×ah):Prop:=x.1= .normal∧W C f call body x.2 Q
theorem Ic{S:ah}(h:W C f call body S Q):IV C f call body Q (.normal,S):=⟨rfl,h⟩
theorem aky{step:α->σ->Option (fu σ bI)}{ys:List α}{fe:σ}{yd:σ->Option ρ}{qo yc:bI->Option ρ}(rep:σ->ah)(fL:bI->ah)(j:Nat)(hF:(eH step ys fe).bind (fu.on yd qo yc)=some r)(hg:A5 C (un true (S.get C aR))=some (ys.map enc))(h0:dr (yF C f assign body) S=some (rep fe))(R:α->σ->ah)(hR:∀y s,En (rep s) ps.toList (enc y)=some (R y s))(round:∀y s z,step y s=some z->W C f call assign (R y s) (IV C f call body (E8 (yF C f assign body) rep fL j z)))(an:∀s,yd s=some r->Q (.normal,rep s))(pr:∀s,qo s=some r->Q (.ret,fL s))(Eb:∀s,yc s=some r->Q (.exit j,fL s)):W C f call (.rangeFunc aR ps assign body) S Q:=by obtain⟨v,h1,h2⟩:=Option.bind_eq_some_iff.1 hF;have key:∀(ys:List α)(s:σ),eH step ys s=some v->∃x,qU (fun bx=>(cm C f call j4 assign bx).bind fun x=>match x.1 with| .normal=>cm C f call j4 body x.2|_=>none) (dr (yF C f assign body)) ps.toList (ys.map enc) (rep s)=some x∧Q x:=by{intro ys;induction ys with|nil=>(intro s h;simp only[eH,Ha]at h;subst h;exact⟨_,rfl,an s h2⟩)|cons y ys ih=>intro s h;simp only[eH,Option.bind_eq_some_iff]at h;obtain⟨z,hz,h⟩:=h;obtain⟨⟨e,bx⟩,g1,rfl,⟨e2,cU⟩,g2,g3⟩:=round y s z hz;simp only[GT,qU,hR,AC,g1,g2];cases z with|go s'=>(obtain⟨rfl,g3⟩:=g3;simp only at g3;simp only[g3,AC];exact ih s' h)|ret s'=>(obtain⟨rfl,g3⟩:=g3;simp only[Ha]at h;subst h;simp only at g3;simp only[g3,AC];exact⟨_,rfl,pr s' h2⟩)|ex s'=>obtain⟨rfl,g3⟩:=g3;simp only[Ha]at h;subst h;simp only at g3;simp only[g3,AC];exact⟨_,rfl,Eb s' h2⟩};obtain⟨x,h3,h4⟩:=key ys fe h1;refine⟨x, ?_,h4⟩;simp only[cm,hg,AC,h0];exact h3
theorem Ie{step:α->σ->Option (fu σ bI)}{ys:List α}{fe:σ}{yd:σ->Option ρ}{qo yc:bI->Option ρ}(rep:σ->ah)(fL:bI->ah)(j:Nat)(hF:(eH step ys fe).bind (fu.on yd qo yc)=some r)(hg:A5 C (un true (S.get C aR))=some (ys.map enc))(h0:dr (yF C f assign body) S=some (rep fe)){n:Nat}(hn:∀s,(rep s).n=n)(hl:∀y,ps.toList.length=(enc y).length)(hp:(ps.toList.all fun p=>Nat.blt p n)=true)(round:∀y s z,step y s=some z->W C f call assign ⟨(rep s).n,ur (rep s).t (ps.toList.zip (enc y)),(rep s).h⟩ (IV C f call body (E8 (yF C f assign body) rep fL j z)))(an:∀s,yd s=some r->Q (.normal,rep s))(pr:∀s,qo s=some r->Q (.ret,fL s))(Eb:∀s,yc s=some r->Q (.exit j,fL s)):W C f call (.rangeFunc aR ps assign body) S Q:=aky rep fL j hF hg h0 (fun y s=>⟨(rep s).n,ur (rep s).t (ps.toList.zip (enc y)),(rep s).h⟩) (fun y s=>by unfold En;rw[if_pos ⟨hl y,by rw[List.all_eq_true]at hp|-;intro p GW;rw[decide_eq_true_eq,hn];exact of_decide_eq_true (lO (hp p GW))⟩]) round an pr Eb
theorem yI{o:Option (Bool×List Nat)}{z:fu σ bI}{s:σ}{S:ah}(hF:some (fu.go s)=some z)(h:dr o S=some (rep s)):E8 o rep fL j z (.normal,S):=by cases hF;exact⟨rfl,h⟩
theorem Be{o:Option (Bool×List Nat)}{z:fu σ bI}{s:bI}{S:ah}(hF:some (fu.ret s)=some z)(h:dr o S=some (fL s)):E8 o rep fL j z (.ret,S):=by cases hF;exact⟨rfl,h⟩
end
section
variable{C:aF}{f:FuncId}{call:fZ}{c:Code}{Q:Exit×ah->Prop}{n:Nat}{t t2:Nat->U}{h:Id->Option (Option Rows)}{l:List Nat}{vs:List U}{zs:List (Nat×U)}
theorem Nf(k:W C f call c ⟨n,t2,h⟩ Q)(hm:aH n l vs=⟨n,t,h⟩:=by exact Hs)(ht:ur t zs=t2:=by exact rfl):W C f call c ⟨(aH n l vs).n,ur (aH n l vs).t zs,(aH n l vs).h⟩ Q:=by subst ht;rw[hm];exact k
theorem akI{l:List (Nat×U)}{h:List (Id×Rows)}(k:W C f call c ⟨n,t2,jB h⟩ Q)(ht:ur (cT (fun _=> .bf) l) zs=t2:=by exact rfl):W C f call c ⟨(fY n l h).n,ur (fY n l h).t zs,(fY n l h).h⟩ Q:=by subst ht;exact k
end
open Go
instance:iU jR:=⟨fun x=>by cases x<;>rfl⟩
instance:qH jR:=⟨fun x=>by cases x<;>rfl,fun x=>by cases x<;>rfl⟩
instance:BP jR jR:=⟨fun x=>by cases x<;>rfl⟩
theorem aiX(o:Option Int):fA (iO o)=true:=by cases o<;>rfl
theorem aiY(q:List (Option Int)):(q.map jR).all AV=true:=by induction q with|nil=>(rfl)|cons o q ih=>simp only[GT,List.all_cons,ih,Bool.and_true,jR];cases o<;>rfl
theorem Uj{P:Program}{T e:TypeId}{d:Nat}(hu:P.underlying T=some (.pointer e)):cG P (Op.equalIn (d+1) T (.pointer none) (.pointer none))=some true:=by unfold Op.equalIn;rw[gA,ou hu];rfl
section
variable{C:aF}{f:FuncId}{call:fZ}{S:ah}{g:Bool}{d:Nat}{ty:TypeId}{pos:String}{aQ:Array Edge}{bn:Option (Nat×Bool)}
theorem vM{aI x:Operand}{ts:Array TypeId}{c9:FuncId}{cells:List U}{id fU:Id}{n:Nat}{i c:Int}{kids:List Int}{q:List (Option Int)}{el:Option Int}(h1:idx kids i=some c)(h2:idx q c=some el)(hfo:un g (S.get C aI)= .fn (.func c9) [] [.mp id 0 0, .ay cells]:=by exact rfl)(hx:un g (S.get C x)= .val (.int .i64 i):=by first|exact rfl|exact y3|exact bG)(hlk:C.look c9=true:=by exact rfl)(KG:cells[4]? =some (.sl (kids.map fun k=>[.val (.int .i64 k)])):=by exact rfl)(hid:S.h id=some (some [[.rs fU 0 n]]):=by exact rfl)(xL:S.h fU=some (some (q.map jR)):=by exact rfl)(hn:n=q.length:=by exact ue)(ht:yT C aI=false:=by exact rfl)(nA:pathOf C aI=none:=by exact rfl)(dR:C.gT c9=false:=by exact rfl):bk C f call S g ⟨some d, .call ⟨.value aI, #[x],ts⟩,ty,pos,aQ,bn⟩=some ⟨[(d,iO el)],[id,fU],[]⟩:=by rw[FY (Gp hfo dR)];rw[nA];simp only;rw[ht];simp only[Hd,if_false];rw[hfo];have a1:0<=i∧kids[i.toNat]? =some c:=by{unfold idx at h1;split at h1;·{exact⟨by assumption,h1⟩};·cases h1};have a2:0<=c∧q[c.toNat]? =some el:=by{unfold idx at h2;split at h2;·{exact⟨by assumption,h2⟩};·cases h2};have b1:(kids.map fun k=>[U.val (.int .i64 k)])[i.toNat]? =some [.val (.int .i64 c)]:=by{rw[Hm,a1.2];rfl};have b2:(q.map jR)[c.toNat]? =some [iO el]:=by{rw[Hm,a2.2];rfl};simp only[qN,hlk,if_true,GT,List.map_nil,hx,List.nil_append,List.cons_append,vF,KG,hid,xL,b1,b2];rw[if_pos ⟨a1.1,a2.1,by rw[hn,List.length_map],aiY q,aiX el,rfl⟩];rfl
theorem sB{x:Operand}{e:Option Int}{n:Int}(he:e=some n)(hx:un g (S.get C x)=iO e:=by first|exact rfl|exact y3|exact bG):bk C f call S g ⟨some d, .nilCheck x,ty,pos,aQ,bn⟩=some ⟨[(d, .ay [I n])],[],[]⟩:=by show zV _ (un g (S.get C x))=_;rw[hx,he];rfl
theorem Mr{x:Operand}{T aC:TypeId}{el:TypeId}{e:Option Int}[hu:cY C T (.pointer el)](hx:un g (S.get C x)=iO e:=by first|exact rfl|exact y3|exact bG):bk C f call S g ⟨some d, .binOp .eql T x (.const (.pointer none)) aC,ty,pos,aQ,bn⟩=some ⟨[(d,B e.isNone)],[],[]⟩:=by show nk C _ .eql T x (.const (.pointer none)) (un g (S.get C x)) (.val (.pointer none))=_;rw[hx];cases e with|none=>(have hb:dY C.P .eql T x (.const (.pointer none)) (.pointer none) (.pointer none)=some (.bool true):=by{show cG C.P (do let b<-Op.equalIn (9999+1) T (.pointer none) (.pointer none);pure (Value.bool b))=_;rw[gA,Uj hu.ul];rfl};simp only[nk,iO,mw,hb,kX,eo,ret,put];rfl)|some n=>simp only[nk,iO,mw,hu.ul,HW];rfl
theorem Tz{x:Operand}{T aC:TypeId}{el:TypeId}{e:Option Int}[hu:cY C T (.pointer el)](hx:un g (S.get C x)=iO e:=by first|exact rfl|exact y3|exact bG):bk C f call S g ⟨some d, .binOp .neq T x (.const (.pointer none)) aC,ty,pos,aQ,bn⟩=some ⟨[(d,B e.isSome)],[],[]⟩:=by show nk C _ .neq T x (.const (.pointer none)) (un g (S.get C x)) (.val (.pointer none))=_;rw[hx];cases e with|none=>(have hb:dY C.P .neq T x (.const (.pointer none)) (.pointer none) (.pointer none)=some (.bool false):=by{show cG C.P (do let b<-Op.equalIn (9999+1) T (.pointer none) (.pointer none);pure (Value.bool (!b)))=_;rw[gA,Uj hu.ul];rfl};simp only[nk,iO,mw,hb,kX,eo,ret,put];rfl)|some n=>simp only[nk,iO,mw,hu.ul,HW];rfl
end
open Go
section
variable{n:Nat}{t:Nat->U}{h L:Id->Option (Option Rows)}
/-! ### Opened, frozen -/
theorem cg{p s row off:Nat}{id:Id}{r r':List U}{x:Id×Option Rows}{wr:List (Id×Option Rows)}(hs:t s= .mp id row off:=by exact rfl)(hid:h id=some (some [r]):=by exact rfl)(hu:bJ [p,s] 0 r=(r',x::wr):=by exact y5)(Lo:Nat.blt s n=true:=by exact rfl)(hf:fresh h (x::wr)=true:=by exact rfl):um p ⟨n,t,h⟩ s=some ⟨n,t,aZ h ((id,some [r'])::x::wr)⟩:=aiW hs hid hu Lo hf
def agh:U->Bool| .rs _ _ _| .ct| .mr _=>true|_=>false
theorem ade{s:Nat}{v v':U}{ids:List Id}{wr:List (Id×Option Rows)}(hl:agh (t s)=true:=by exact rfl)(hp:pk h 9 (t s)=some (v,ids):=by exact mW)(hf:dF v=v':=by exact CL)(hn:dV ids=true:=by exact rfl)(hw:(ids.map fun i=>(i,none))=wr:=by exact spine):p9 ⟨n,t,h⟩ s=some ⟨n,aj t s v',aZ h wr⟩:=by have e:qa ⟨n,t,h⟩ s=some ⟨n,aj t s v',aZ h wr⟩:=by{subst hf hw;simp only[qa,hp,hn,if_true]};rw[<-e];cases hts:t s<;>rw[hts]at hl<;>first|(unfold p9;simp only[hts];done)|cases hl
/-! ### Names of what arguments lead to -/
def SQ:U->Bool| .fn _ as cs=> !(as.isEmpty&&cs.isEmpty)| .rs _ _ _=>true| .mp _ _ _=>true| .mr _=>true| .agg _=>true|_=>false
variable{m j:Nat}{b:Bool}{p i:Id}{acc acc' oJ y l:List (Id×Id)}{a:U}{as cs er:List U}
theorem PI(hx:er=[])(e:acc=y):eu L m b p j acc er=y:=by subst hx;cases m<;>exact e
theorem aav(hx:er=a::as)(hs:SQ a=false)(k:eu L m b p (j+1) acc as=y):eu L (m+1) b p j acc er=y:=by subst hx;cases a with|fn f xs cs=>(simp only[SQ,Bool.not_eq_false',Hk,List.isEmpty_iff]at hs;obtain⟨rfl,rfl⟩:=hs;have e:eu L m true (j::p) 0 acc ([]++[])=acc:=by{cases m<;>rfl};simp only[eu,e];exact k)|_=>first|exact k|cases hs
theorem aau{o q:Nat}(hx:er= .rs i o q::as)(hn:(!b||(gi acc i).isSome)=true)(k:eu L m b p (j+1) acc as=y):eu L (m+1) b p j acc er=y:=by subst hx;simp only[eu,hn];exact k
theorem aas{o q:Nat}(hx:er= .mp i o q::as)(hn:(gi acc i).isSome=false)(hh:L i=some (some [cs]))(hl:acc++[(i,j::p)]=acc')(h1:eu L m false (j::p) 0 acc' cs=oJ)(k:eu L m b p (j+1) oJ as=y):eu L (m+1) b p j acc er=y:=by subst hx hl h1;simp only[eu,hn,hh];exact k
theorem aat{o q:Nat}(hx:er= .mp i o q::as)(hn:(gi acc i).isSome=true)(k:eu L m b p (j+1) acc as=y):eu L (m+1) b p j acc er=y:=by subst hx;simp only[eu,hn];exact k
theorem aaq(hx:er= .agg cs::as)(h1:eu L m b (j::p) 0 acc cs=oJ)(k:eu L m b p (j+1) oJ as=y):eu L (m+1) b p j acc er=y:=by subst hx h1;simp only[eu];exact k
theorem aar{f:Fn}{xs:List U}(hx:er= .fn f xs cs::as)(h1:eu L m true (j::p) 0 acc (xs++cs)=oJ)(k:eu L m b p (j+1) oJ as=y):eu L (m+1) b p j acc er=y:=by subst hx h1;simp only[eu];exact k
theorem PJ(k:eu L m b p j acc er=y:=by(repeat'(first|((with_reducible apply PI);(with_reducible exact rfl);exact rfl)|((with_reducible apply aav);exact rfl;first|exact rfl|exact aoP|exact aoQ)|((with_reducible apply amX);exact rfl;exact rfl;exact spine)|((with_reducible apply aau);exact rfl;exact rfl)|((with_reducible apply amV);exact rfl;exact rfl;exact spine)|((with_reducible apply amW);exact rfl;exact rfl)|((with_reducible apply aat);exact rfl;exact rfl)|((with_reducible apply aas);exact rfl;exact rfl;exact rfl;exact spine)|((with_reducible apply aaq);exact rfl)|((with_reducible apply aar);exact rfl)|(apply PI;exact rfl;exact rfl)));first|done|fail):eu L m b p j acc er=y:=k
/-! ### The objects that go -/
variable{o k:Id}{r l':List (Id×Id)}{rows x1 aY:Rows}{i1 i2 gone ids:List Id}{obs outs:List U}{keep:Id->Bool}{back:List (Id×Option Rows)}
theorem aba(hf:eC rows=true):n5 L keep rows=some (rows,[]):=by simp only[n5,hf,if_true]
theorem abb(hf:eC rows=false)(hc:dP (lR L keep) rows=some (aY,ids)):n5 L keep rows=some (aY,ids):=by simp[n5,hf,hc]
theorem PZ{y:Option (Rows×List Id)}(k:n5 L keep rows=y:=by(repeat'(first|(apply aba;first|exact p7 _|exact rfl|exact JZ)|(apply am2;exact rfl;exact rfl;(first|(with_reducible assumption)|assumption);exact inferInstance;rotate_left;exact rfl)|(apply abb;exact rfl)|exact Q3|(apply Q4;exact rfl)|exact aa9|(apply PX;exact rfl)|exact Ju|exact Jv|exact PC|exact Jw|(apply PE;exact rfl;exact rfl;exact mW)|(apply Jx;exact rfl;exact rfl;exact mW)|(apply PD;exact rfl;exact rfl;exact mW)|(apply Ce;first|exact rfl|exact QS|exact QV|exact QT)|exact Jt|exact zZ|(apply CF;exact rfl)));first|done|fail):n5 L keep rows=y:=k
theorem aib:iN L l []=some ([],[]):=rfl
theorem aia(h:L o=some (some rows))(hc:n5 L (ua l) rows=some (x1,i1))(hr:mY l x1=some aY)(hy:iN L l r=some (obs,gone)):iN L l ((o,k)::r)=some (.bQ k aY::obs,i1++gone):=by simp[iN,h,hc,hr,hy]
theorem TJ{y:Option (List U×List Id)}(k:iN L l r=y:=by(repeat'(first|exact aib|(apply aia;exact rfl;exact PZ;(first|exact Ng|exact Nh|exact Ni))));first|done|fail):iN L l r=y:=k
theorem Zw:iX l' [] []=some []:=rfl
theorem Zu(hr:mY l' rows=some aY)(hy:iX l' r outs=some back):iX l' ((o,k)::r) (.bQ k rows::outs)=some ((o,some aY)::back):=by simp[iX,hr,hy]
theorem Zv(hy:iX l' r outs=some back):iX l' ((o,k)::r) (.bf::outs)=some ((o,none)::back):=by simp[iX,hy]
theorem aay:kr L []=[]:=rfl
theorem aax{x:Id×Option Rows}{gR:List (Id×Option Rows)}(hs:yL L x=true)(k:kr L gR=back):kr L (x::gR)=back:=by unfold kr at*;rw[Hn (by simp[hs])];exact k
theorem aaw{x:Id×Option Rows}{gR:List (Id×Option Rows)}(hs:yL L x=false)(k:kr L gR=back):kr L (x::gR)=x::back:=by unfold kr at*;rw[H0 (by simp[hs]),k]
theorem PK{gR:List (Id×Option Rows)}{y:List (Id×Option Rows)}(k:kr L gR=y:=by(repeat'(first|exact aay|(apply aax;exact rfl)|(apply aaw;first|exact apL|exact rfl)));first|done|fail):kr L gR=y:=k
theorem Pj{y:Option (List (Id×Option Rows))}(k:iX l' r outs=y:=by(repeat'(first|exact Zw|(apply Zu;(first|exact Ng|exact Nh|exact Ni))|apply Zv));first|done|fail):iX l' r outs=y:=k
/-! Values under other names -/
theorem akJ(hf:flat a=true):fo l a=a:=by cases a with|agg cs=>(simp only[flat]at hf;simp[fo,Ei hf])|aU cs=>(simp only[flat]at hf;simp[fo,Ei hf])|fn f as cs=>(simp only[flat,Hk]at hf;simp[fo,Ei hf.1,Ei hf.2])|rs _ _ _=>(simp[flat]at hf)|mp _ _ _=>(simp[flat]at hf)|mr _=>(simp[flat]at hf)|c8 _ _=>(simp[flat]at hf)|ct=>(simp[flat]at hf)|_=>simp only[fo,ry,yH];rw[if_pos hf]
theorem ab4(hf:cN cs=true):flat (.agg cs)=true:=hf
theorem acg(hf:cN cs=true):flat (.aU cs)=true:=hf
theorem ab6{α:Type}{c:α->List U}{x:α}[hc:iU c]:cN (c x)=true:=hc.fl x
theorem J2{a:U}(k:flat a=true:=by(repeat'(first|exact rfl|exact ab5|exact ab9|exact QU|(with_reducible apply ab4)|(with_reducible apply acg)|exact ab6|exact ab8|(apply QO;exact rfl)));first|done|fail):flat a=true:=k
theorem Np{a':U}(k:fo l a=a':=by first|(refine akJ ?_;exact J2)|exact rfl):fo l a=a':=k
theorem akw(hx:er=[]:=by exact rfl):er.map (fo l)=[]:=by subst hx;rfl
theorem akv{a':U}{bs:List U}(hx:er=a::as)(h:fo l a=a')(k:as.map (fo l)=bs):er.map (fo l)=a'::bs:=by subst hx h k;rfl
theorem U8{bs:List U}(k:er.map (fo l)=bs:=by(repeat'(first|exact akw|(apply akv;exact rfl;exact Np)));first|done|fail):er.map (fo l)=bs:=k
end
section
variable{C:aF}{f:FuncId}{call:fZ}{S:ah}{g:Bool}{d:Nat}{ty:TypeId}{pos:String}{aQ:Array Edge}{bn:Option (Nat×Bool)}
variable{aI:Operand}{ts:Array TypeId}{c9:FuncId}{as bs args A6 obs outs D4 apv:List U}{l:List (Id×Id)}{gone:List Id}{r v v':U}{back Fy kj wr:List (Id×Option Rows)}{xs:Array Operand}
theorem abQ{d':Option Tmp}(hfo:un g (S.get C aI)= .fn (.func c9) as bs)(dR:C.gT c9=true):bk C f call S g ⟨d', .call ⟨.value aI,xs,ts⟩,ty,pos,aQ,bn⟩=qO C f call S ⟨d', .call ⟨.value aI,xs,ts⟩,ty,pos,aQ,bn⟩ c9 (as++(xs.toList.map fun x=>un g (S.get C x))++bs):=by show(match oa C (un g (S.get C aI))with|some x=>qO C f call S _ x.1 (x.2.1++(xs.toList.map fun x=>un g (S.get C x))++x.2.2)|none=>_)=_;have:oa C (un g (S.get C aI))=some (c9,as,bs):=by{rw[hfo];simp[oa,dR]};rw[this]
theorem Pz(hc:call c9 (.aU obs::A6)=some (r,outs))(hfo:un g (S.get C aI)= .fn (.func c9) as bs)(dR:C.gT c9=true)(ha:as++(xs.toList.map fun x=>un g (S.get C x))++bs=args)(hl:eu S.h 60 true [iL] 0 [] args=l)(ho:iN S.h l l=some (obs,gone))(Dh:args.map (fo l)=A6)(oV:(dV (l.map (·.1))&&dV (l.map (·.2))&&(l.all fun x=>j3 x.2)&&dV gone&&tr gone (l.map (·.1)))=true)(hb:iX (l.map fun x=>(x.2,x.1)) l outs=some back)(hp:AI r=false)(hv:fo (l.map fun x=>(x.2,x.1)) (if eX C f (some d)then(if flat r then dF r else .bf)else r)=v)(hi:imp [d] v=(v',kj))(hf:fresh S.h kj=true)(hw:kj++(kr S.h back++gone.map fun i=>(i,none))=wr):bk C f call S g ⟨some d, .call ⟨.value aI,xs,ts⟩,ty,pos,aQ,bn⟩=some ⟨[(d,v')],l.map (·.1),wr⟩:=by rw[abQ hfo dR,ha];subst hw;have e:r5 call S.h c9 args=some ⟨r,l,back,gone⟩:=by{unfold r5 CO;rw[hl,ho];simp only[oV,if_true,Dh,hc,hb,GE]};unfold qO;rw[e];simp only[AC,hp,Hd,if_false,ja,hv,hi,hf,if_true];rfl
theorem ia(hc:call c9 (.aU obs::A6)=some (r,outs)){rd:List Id}(hfo:un g (S.get C aI)= .fn (.func c9) as bs:=by exact rfl)(dR:C.gT c9=true:=by exact rfl)(ha:as++(xs.toList.map fun x=>un g (S.get C x))++bs=args:=by exact spine)(hl:eu S.h 60 true [iL] 0 [] args=l:=by exact PJ)(ho:iN S.h l l=some (D4,gone):=by exact TJ)(xT:D4=obs:=by exact rfl)(Dh:args.map (fo l)=A6:=by exact U8)(oV:(dV (l.map (·.1))&&dV (l.map (·.2))&&(l.all fun x=>j3 x.2)&&dV gone&&tr gone (l.map (·.1)))=true:=by exact rfl)(hb:iX (l.map fun x=>(x.2,x.1)) l outs=some back:=by exact Pj)(hp:AI r=false:=by exact rfl)(hz:(C.eI f).contains d=false:=by exact rfl)(hv:fo (l.map fun x=>(x.2,x.1)) r=v:=by exact Np)(hi:imp [d] v=(v',kj):=by exact x6)(hf:fresh S.h kj=true:=by exact rfl)(jz:kr S.h back=Fy:=by exact PK)(hw:kj++(Fy++gone.map fun i=>(i,none))=wr:=by exact spine)(hrd:l.map (·.1)=rd:=by exact spine):bk C f call S g ⟨some d, .call ⟨.value aI,xs,ts⟩,ty,pos,aQ,bn⟩=some ⟨[(d,v')],rd,wr⟩:=by subst hrd xT;exact Pz hc hfo dR ha hl ho Dh oV hb hp (by simp only[eX,hz,Hd,if_false];exact hv) hi hf (by rw[jz];exact hw)
theorem dm(hc:call c9 (.aU obs::A6)=some (r,outs)){rd:List Id}{v0:U}(hfo:un g (S.get C aI)= .fn (.func c9) as bs:=by exact rfl)(dR:C.gT c9=true:=by exact rfl)(ha:as++(xs.toList.map fun x=>un g (S.get C x))++bs=args:=by exact spine)(hl:eu S.h 60 true [iL] 0 [] args=l:=by exact PJ)(ho:iN S.h l l=some (D4,gone):=by exact TJ)(xT:D4=obs:=by exact rfl)(Dh:args.map (fo l)=A6:=by exact U8)(oV:(dV (l.map (·.1))&&dV (l.map (·.2))&&(l.all fun x=>j3 x.2)&&dV gone&&tr gone (l.map (·.1)))=true:=by exact rfl)(hb:iX (l.map fun x=>(x.2,x.1)) l outs=some back:=by exact Pj)(hp:AI r=false:=by exact rfl)(hz:(C.eI f).contains d=true:=by exact rfl)(hfl:flat r=true:=by exact J2)(hfz:dF r=v0:=by exact CL)(hv:fo (l.map fun x=>(x.2,x.1)) v0=v:=by exact Np)(hi:imp [d] v=(v',kj):=by exact x6)(hf:fresh S.h kj=true:=by exact rfl)(jz:kr S.h back=Fy:=by exact PK)(hw:kj++(Fy++gone.map fun i=>(i,none))=wr:=by exact spine)(hrd:l.map (·.1)=rd:=by exact spine):bk C f call S g ⟨some d, .call ⟨.value aI,xs,ts⟩,ty,pos,aQ,bn⟩=some ⟨[(d,v')],rd,wr⟩:=by subst hrd xT;exact Pz hc hfo dR ha hl ho Dh oV hb hp (by simp only[eX,hz,if_true,hfl,hfz];exact hv) hi hf (by rw[jz];exact hw)
end
/-! ### Functions -/
def wz:Nat->List U->List (Nat×U)|_,[]=>[]|i,p::ps=>(i,p)::wz (i+1) ps
theorem Oe:∀(ps:List U)(i t:Nat),cT (fun _=> .bf) (wz i ps) t=if t<i then .bf else ps.getD (t-i) .bf|[],i,t=>by{simp[wz,cT]}|p::ps,i,t=>by simp only[wz,cT,aj];by_cases e:t=i;·{subst e;simp};·rw[if_neg e,Oe ps (i+1) t];by_cases h1:t<i;·{rw[if_pos h1,if_pos (by omega)]};·rw[if_neg h1,if_neg (by omega),show t-i=(t-(i+1))+1 by omega];rfl
def ze(C:aF)(f:FuncId)(rv:List ResultVar)(ks:List Id)(r:U)(outs:List U)(x:Exit×ah):Prop:=(x.1= .ret∨x.1= .normal)∧∃S al vs i1 i2,o4 (C.rY f) x.2=S∧(ks.filter fun k=>mO (S.h k))=al∧mo C S (nh S.h fun i=>al.contains i) rv=some (vs,i1)∧lE S.h (fun i=>al.contains i) ks=some (outs,i2)∧dV (al++(i1++i2))=true∧vS vs=r
section
variable{C:aF}{f:FuncId}{S:ah}{rv:List ResultVar}{ks al:List Id}{vs outs outs' cs cs':List U}{ids is i1 i2:List Id}{r v v' x:U}{p:U->Option (U×List Id)}{L:Id->Option (Option Rows)}{keep:Id->Bool}{rows aY:Rows}{k:Id}{T:TypeId}
theorem akC:mo C S p []=some ([],[]):=rfl
theorem akE{t:Nat}(h:p (un true (S.t t))=some (v,ids))(hr:mo C S p rv=some (vs,is)):mo C S p (.tmp t::rv)=some (v::vs,ids++is):=by show(vY C S p (.tmp t)).bind _=_;simp only[vY,h,AC,hr,GE]
theorem akD{a m:Nat}{id:Id}{bb:Bool}{r:List U}[ha:cI C T bb m](hx:un true (S.t a)= .mp id 0 0)(hh:S.h id=some (some [r]))(hl:Hb m r.length=true)(hv:jh bb (r.take m)=some v)(h:p v=some (v',ids))(hr:mo C S p rv=some (vs,is)):mo C S p (.cell a T::rv)=some (v'::vs,id::ids++is):=by show(vY C S p (.cell a T)).bind _=_;have hl':0+m<=r.length:=by{have:=Hc hl;omega};simp only[vY,ha.kK,ha.sz,hx,hh,List.getElem?_cons_zero,if_pos hl',List.drop_zero,hv,AC,h,hr,GE]
theorem PL:∀{cs:List U},cN cs=true->dL (gC L keep) cs=some (cs,[])|[],_=>rfl|c::cs,h=>by simp only[cN,Hk]at h;simp only[dL,Ce h.1,AC,PL h.2,GE];rfl
theorem abi(hf:flat x=true):nh L keep x=some (x,[]):=by cases x with|agg cs=>(simp only[flat]at hf;simp only[nh,PL hf,GE])|_=>exact Ce (h:=L) (keep:=keep) hf
theorem abg(hx:x= .agg cs:=by exact rfl)(h:dL (gC L keep) cs=some (cs',ids)):nh L keep x=some (.agg cs',ids):=by subst hx;simp only[nh,h,GE]
def isAgg:U->Bool| .agg _=>true|_=>false
theorem abm(hx:isAgg x=false)(h:gC L keep x=some (v,ids)):nh L keep x=some (v,ids):=by cases x<;>first|exact h|cases hx
theorem JH{y:Option (U×List Id)}(k:nh L keep x=y:=by(repeat'(first|(refine abi ?_;exact J2)|(apply abg;exact rfl)|(apply abm;exact rfl)|exact Ju|exact Jv|exact PC|exact Jw|(apply PE;exact rfl;exact rfl;exact mW)|(apply Jx;exact rfl;exact rfl;exact mW)|(apply PD;exact rfl;exact rfl;exact mW)|(apply Ce;first|exact rfl|exact QS|exact QV|exact QT)|exact Jt|exact zZ|(apply CF;exact rfl)));first|done|fail):nh L keep x=y:=k
theorem UU{y:Option (List U×List Id)}(h:mo C S (nh L keep) rv=y:=by repeat'(first|with_reducible exact akC|((with_reducible apply akE);exact JH)|((with_reducible apply akD);exact rfl;exact rfl;exact rfl;(first|exact Hq|exact Hr rfl);exact JH)|((with_reducible apply apF);exact rfl;exact rfl;(first|exact Hq|exact Hr rfl);exact JH))):mo C S (nh L keep) rv=y:=h
theorem ah5:lE L keep []=some ([],[]):=rfl
theorem ah3(h:L k=some (some rows))(hc:n5 L keep rows=some (aY,i1))(hy:lE L keep ks=some (outs,i2)):lE L keep (k::ks)=some (.bQ k aY::outs,i1++i2):=by simp[lE,h,hc,hy]
theorem ah4(h:mO (L k)=false)(hy:lE L keep ks=some (outs,i2)):lE L keep (k::ks)=some (.bf::outs,i2):=by unfold lE;split;·{rename_i rows e;rw[e]at h;cases h};·rw[hy];rfl
theorem TI{y:Option (List U×List Id)}(h:lE L keep ks=y:=by(repeat'(first|exact ah5|(apply ah3;exact rfl;exact PZ)|(apply ah4;exact rfl)));first|done|fail):lE L keep ks=y:=h
theorem ab7{p:Id->Bool}:Do p []=([]:List Id):=rfl
theorem acf{p:Id->Bool}{k:Id}{ks al:List Id}(h:p k=true)(hy:Do p ks=al):Do p (k::ks)=k::al:=by rw[H0 h,hy]
theorem ach{p:Id->Bool}{k:Id}{ks al:List Id}(h:p k=false)(hy:Do p ks=al):Do p (k::ks)=al:=by rw[Hn (by simp[h]),hy]
theorem Q1{p:Id->Bool}{y:List Id}(h:Do p ks=y:=by(repeat'(first|exact ab7|(apply acf;exact rfl)|(apply ach;exact rfl)));first|done|fail):Do p ks=y:=h
theorem agD{S:ah}{l:List Id}(hl:l=[]:=by exact rfl):o4 l S=S:=by subst hl;rfl
theorem agE{n:Nat}{t:Nat->U}{h:Id->Option (Option Rows)}{l l2:List Id}(hl:l=l2:=by exact spine):o4 l ⟨n,t,h⟩=⟨n,t,aZ h (l2.map fun i=>(i,none))⟩:=by subst hl;rfl
theorem SH{S S':ah}{l:List Id}(k:o4 l S=S':=by first|exact agD|exact agE):o4 l S=S':=k
theorem e9{fT:ah}(hk:o4 (C.rY f) fT=S:=by exact SH)(ha:(ks.filter fun k=>mO (S.h k))=al:=by exact Q1)(h:mo C S (nh S.h fun i=>al.contains i) rv=some (vs,i1):=by exact UU)(ho:lE S.h (fun i=>al.contains i) ks=some (outs',i2):=by exact TI)(xT:outs'=outs:=by exact rfl)(hn:dV (al++(i1++i2))=true:=by exact rfl)(hr:vS vs=r:=by exact rfl):ze C f rv ks r outs (.ret,fT):=by subst xT;exact⟨.inl rfl,S,al,vs,i1,i2,hk,ha,h,ho,hn,hr⟩
theorem Kc{fT:ah}(hk:o4 (C.rY f) fT=S:=by exact SH)(ha:(ks.filter fun k=>mO (S.h k))=al:=by exact Q1)(h:mo C S (nh S.h fun i=>al.contains i) rv=some (vs,i1):=by exact UU)(ho:lE S.h (fun i=>al.contains i) ks=some (outs',i2):=by exact TI)(xT:outs'=outs:=by exact rfl)(hn:dV (al++(i1++i2))=true:=by exact rfl)(hr:vS vs=r:=by exact rfl):ze C f rv ks r outs (.normal,fT):=by subst xT;exact⟨.inr rfl,S,al,vs,i1,i2,hk,ha,h,ho,hn,hr⟩
theorem jc{fn:Func}{c:Code}{obs args:List U}{hl:List (Id×Rows)}{zs:List (Nat×U)}{nn N:Nat}(hf:C.P.funcs[f]? =some fn)(hn:fn.ntmps=N)(hr:fn.results.toList=rv)(k:nR iL (C.jk f iL) [] (fun fT=>W C f (den C nn) c fT (ze C f rv ks r outs)) ⟨N,cT (fun _=> .bf) zs,jB hl⟩)(hb:fn.body=some c:=by exact rfl)(he:C.ext f=none:=by exact rfl)(dR:C.gT f=true:=by exact rfl)(hl':Hb args.length N=true:=by exact rfl)(hN:Hb N iL=true:=by exact rfl)(ho:vN obs=some hl:=by exact rfl)(hz:wz 0 args=zs:=by exact spine)(hk:hl.map (·.1)=ks:=by exact spine)(hdf:pY C f c=false:=by exact rfl):den C (nn+1) f (.aU obs::args)=some (r,outs):=by obtain⟨fT,h0,bx,h1,⟨e,s⟩,h2,h3,XS,al,vs,i1,i2,C5,h4,h5,h6,h7,h8⟩:=k;simp only[lf,Ha]at h1;subst h1;subst hr hn hz hk;show r0 C (den C nn) j4 f _=_;unfold r0;simp only[he,hf,hb,dR,if_true];unfold Cy;simp only[ho];rw[if_pos ⟨Hc hl',Hc hN⟩,hdf];simp only[Hd,if_false];have e0:yR fn.ntmps args hl=⟨fn.ntmps,cT (fun _=> .bf) (wz 0 args),jB hl⟩:=by{unfold yR;congr 1;funext t;rw[Oe];simp};rw[e0,h0];simp only[AC,h2];have cQ:tF C fn (hl.map (·.1)) (o4 (C.rY f) s)=some (r,outs):=by{simp only at C5;rw[C5];unfold tF;simp only[h4,h5,h6,h7,if_true];rw[<-h8];congr 2;cases vs with|nil=>(rfl)|cons a l=>cases l<;>rfl};rcases h3 with h3|h3;·{simp only at h3;subst h3;exact cQ};·simp only at h3;subst h3;exact cQ
end
open Go
section
variable{C:aF}{f:FuncId}{call:fZ}{S:ah}{A b c:Code}{o0 o1:Oper}{d:Nat}{Q:Exit×ah->Prop}
def E6(C:aF)(f:FuncId)(call:fZ)(o0 o1:Oper)(d:Nat)(b:Code)(Q:Exit×ah->Prop)(x:Exit×ah):Prop:=match x.1 with| .normal=>dH C f call #[o0,o1] 0 [o0] [] x.2 fun _ bx=>∃k xs cs,bx.t d= .fn (.func k) xs cs∧C.oh k=true∧W C f call b bx Q|_=>Q x
theorem aj3(h:dH C f call #[o0,o1] 0 [o0] [] S fun _ bx=>∃k xs cs,bx.t d= .fn (.func k) xs cs∧C.oh k=true∧W C f call b bx Q):E6 C f call o0 o1 d b Q (.normal,S):=h
theorem aj4(h:Q (.ret,S)):E6 C f call o0 o1 d b Q (.ret,S):=h
theorem ahv{ks:List iV}{i:Nat}{ops:Array Oper}{k:FuncId}{xs cs:List U}(h:W C f call b S Q)(hd:S.t d= .fn (.func k) xs cs:=by exact rfl)(hk:C.oh k=true:=by exact rfl):dH C f call ops i [] ks S fun _ bx=>∃k xs cs,bx.t d= .fn (.func k) xs cs∧C.oh k=true∧W C f call b bx Q:=nl ⟨k,xs,cs,hd,hk,h⟩
theorem aby(k:W C f call A S (E6 C f call o0 o1 d b Q))(hs:uw C f c=some (A,o0,o1,d,b))(hb:pY C f b=false):∃x,jx C f call j4 c S=some x∧Q x:=by obtain⟨⟨x,bx⟩,h1,h2⟩:=k;rw[abV c hs,h1];simp only[AC];cases x with|normal=>(obtain⟨⟨cU,ks⟩,h3,k,xs,cs,h4,h5,y,h6,h7⟩:=h2;refine⟨y, ?_,h7⟩;simp only[F0,h3,AC];simp only at h4;rw[h4];simp only[h5,if_true];rw[abU b hb];exact h6)|_=>exact⟨_,rfl,h2⟩
theorem acp{rv:List ResultVar}{ks:List Id}{r:U}{outs:List U}{fn:Func}{obs args:List U}{hl:List (Id×Rows)}{zs:List (Nat×U)}{nn N:Nat}(hf:C.P.funcs[f]? =some fn)(hn:fn.ntmps=N)(hr:fn.results.toList=rv)(k:nR iL (C.jk f iL) [] (fun fT=>W C f (den C nn) A fT (E6 C f (den C nn) o0 o1 d b (ze C f rv ks r outs))) ⟨N,cT (fun _=> .bf) zs,jB hl⟩)(hb:fn.body=some c:=by exact rfl)(he:C.ext f=none:=by exact rfl)(dR:C.gT f=true:=by exact rfl)(hl':Hb args.length N=true:=by exact rfl)(hN:Hb N iL=true:=by exact rfl)(ho:vN obs=some hl:=by exact rfl)(hz:wz 0 args=zs:=by exact spine)(hk:hl.map (·.1)=ks:=by exact spine)(hs:uw C f c=some (A,o0,o1,d,b):=by exact rfl)(hdf:pY C f c=true:=by exact rfl)(hdb:pY C f b=false:=by exact rfl):den C (nn+1) f (.aU obs::args)=some (r,outs):=by obtain⟨fT,h0,bx,h1,h2⟩:=k;simp only[lf,Ha]at h1;subst h1;obtain⟨⟨e,s⟩,adA,h3,XS,al,vs,i1,i2,C5,h4,h5,h6,h7,h8⟩:=aby h2 hs hdb;subst hr hn hz hk;show r0 C (den C nn) j4 f _=_;unfold r0;simp only[he,hf,hb,dR,if_true];unfold Cy;simp only[ho];rw[if_pos ⟨Hc hl',Hc hN⟩,hdf];simp only[if_true];have e0:yR fn.ntmps args hl=⟨fn.ntmps,cT (fun _=> .bf) (wz 0 args),jB hl⟩:=by{unfold yR;congr 1;funext t;rw[Oe];simp};rw[e0,h0];simp only[AC];rw[adA];simp only[AC];have cQ:tF C fn (hl.map (·.1)) (o4 (C.rY f) s)=some (r,outs):=by{simp only at C5;rw[C5];unfold tF;simp only[h4,h5,h6,h7,if_true];rw[<-h8];congr 2;cases vs with|nil=>(rfl)|cons a l=>cases l<;>rfl};rcases h3 with h3|h3;·{simp only at h3;subst h3;exact cQ};·simp only at h3;subst h3;exact cQ
end
open Go
section
variable{C:aF}{f:FuncId}{call:fZ}{S:ah}{g:Bool}{d:Nat}{t ty:TypeId}{pos:String}{aQ:Array Edge}{bn:Option (Nat×Bool)}{x:Operand}
def qW(l:List ByteArray):U:= .sl (l.map fun s=>[.val (.string s)])
theorem Tr{α:Type}{c:α->U}{T:TypeId}{y:Operand}{k:IntKind}{e:TypeId}{m len:Nat}{bb:Bool}{i:Int}{r:α}{q:List α}(hi:idx q i=some r)[hu:cY C T (.array len e)][hs:cI C e bb m](hx:un g (S.get C x)= .ay (q.map c):=by exact rfl)(hy:un g (S.get C y)= .val (.int k i):=by first|exact rfl|exact bG)(hm:m=1:=by exact rfl)(hl:q.length=len:=by exact rfl):bk C f call S g ⟨some d, .indexAddr T x y,ty,pos,aQ,bn⟩=some ⟨[(d, .ay (c r::(q.map c).drop (i.toNat+1)))],[],[]⟩:=by show nq C S _ T (un g (S.get C x)) (en (un g (S.get C y)))=_;have hb:=AB hi;have hn:=gE hi;subst hm hl;have hlt:i.toNat<q.length:=by{omega};have e1:(q.map c).drop (i.toNat*1)=c r::(q.map c).drop (i.toNat+1):=by{have:q[i.toNat]=r:=by{rw[List.getElem?_eq_getElem hlt]at hn;simpa using hn};rw[Nat.mul_one,List.drop_eq_getElem_cons (by simpa using hlt)];simp[this]};simp only[hx,hy,en,nq,hu.ul,hs.sz];rw[if_pos ⟨hb.1,hb.2,by simp;omega⟩,e1];rfl
end
end Go.Ab
