import Derived.Test.YtmboghefgckkpaaGreatAbV7
namespace Go.Ab
open Go
/-! ### Maps as lists of pairs -/
section
variable{K V:Type}
def fB(eq:K→K→Bool):List (K×V)→K→Option V|[],_=>none|e::l,k=>if eq k e.1 then some e.2 else fB eq l k
def ie(eq:K→K→Bool):List (K×V)→K→V→List (K×V)|[],k,v=>[(k,v)]|e::l,k,v=>if eq k e.1 then(k,v)::l else e::ie eq l k v
end
def pV(a b:Int):Bool:=a==b
def fS(a b:ByteArray):Bool:=a==b
theorem I9{a b:ByteArray}:fS a b=true↔a=b:=⟨Q9,fun h=>by subst h;exact Ra _⟩
class uT{K:Type}(fh:K→Value)(kind:outParam TypeDesc)(eq:outParam (K→K→Bool)):Prop where same:∀a b,Instr.sameNow kind (fh a) (fh b)=some (eq a b)sc:∀a,e4 (fh a)=true
class Ex{V:Type}(ev:V→Value):Prop where sc:∀a,e4 (ev a)=true
def qB(n:Int):Value:= .int .i64 n
def ov(s:ByteArray):Value:= .string s
def Ea(b:Bool):Value:= .bool b
instance:uT qB (.int .i64) pV:=⟨fun a b=>rfl,fun _=>rfl⟩
instance:uT ov .string fS:=⟨fun _ _=>rfl,fun _=>rfl⟩
instance:Ex qB:=⟨fun _=>rfl⟩
instance:Ex ov:=⟨fun _=>rfl⟩
instance:Ex Ea:=⟨fun _=>rfl⟩
def lT{K V:Type}(fh:K→Value)(ev:V→Value)(e:K×V):List aa:=[.val (fh e.1), .val (ev e.2)]
section
variable{K V:Type}{fh:K→Value}{ev:V→Value}{kind:TypeDesc}{eq:K→K→Bool}
theorem Jk [hk:uT fh kind eq]:∀(l:List (K×V))(k:K),qW kind (fh k) (l.map (lT fh ev))=some ((fB eq l k).map ev)|[],_=>rfl|e::l,k=>by simp only[List.map_cons,lT,qW,hk.same,fB];cases h:eq k e.1 with|true=>(rfl)|false=>simpa[lT]using Jk l k
theorem OR [hk:uT fh kind eq]:∀(l:List (K×V))(k:K)(v:V),z9 kind (fh k) (ev v) (l.map (lT fh ev))=some ((ie eq l k v).map (lT fh ev))|[],_,_=>rfl|e::l,k,v=>by simp only[List.map_cons,lT,z9,hk.same,ie];cases h:eq k e.1 with|true=>(rfl)|false=>have:=OR l k v;simp[this,lT]
end
class uW(C:aU)(T:TypeId)(kind:outParam TypeDesc)(z:outParam Value):Prop where mt:Cn C T=some (kind,z)
section
variable{C:aU}{f:FuncId}{call:FuncId→List aa→Option (aa×List aa)}{S:an}{g:Bool}
variable{d:Nat}{ty:TypeId}{pos:String}{bn:Array Edge}{bP:Option (Nat×Bool)}{x y z:Operand}{T:TypeId}
variable{K V:Type}{fh:K→Value}{ev:V→Value}{kind:TypeDesc}{eq:K→K→Bool}{c5:V}{l:List (K×V)}{k:K}{v:V}{id:Id}
theorem Ks{s5:Value}[hm:uW C T kind s5](hf:S.h [d]=none:=by exact rfl):bN C f call S g ⟨some d, .makeMap T none,ty,pos,bn,bP⟩=some ⟨[(d, .mr [d])],[],[([d],some [])]⟩:=by show vl C S _ T none=_;simp[vl,hm.mt,hf,put]
theorem Vg [hm:uW C T kind (ev c5)][hk:uT fh kind eq](hx:un g (S.get C x)= .mr id:=by first|exact rfl|exact cm)(hh:S.h id=some (some (l.map (lT fh ev))):=by exact rfl)(hy:un g (S.get C y)= .val (fh k):=by first|exact rfl|exact cm):bN C f call S g ⟨some d, .lookup T x y true,ty,pos,bn,bP⟩=some ⟨[(d, .bG [.val (ev ((fB eq l k).getD c5)),B (fB eq l k).isSome])],[id],[]⟩:=by show pX C S _ T (un g (S.get C x)) (un g (S.get C y)) true=_;rw[hx,hy];simp only[pX,hm.mt,xz,hh,Jk];cases fB eq l k<;>rfl
theorem Vh [hm:uW C T kind (ev c5)][hk:uT fh kind eq](hx:un g (S.get C x)= .mr id:=by first|exact rfl|exact cm)(hh:S.h id=some (some (l.map (lT fh ev))):=by exact rfl)(hy:un g (S.get C y)= .val (fh k):=by first|exact rfl|exact cm):bN C f call S g ⟨some d, .lookup T x y false,ty,pos,bn,bP⟩=some ⟨[(d, .val (ev ((fB eq l k).getD c5)))],[id],[]⟩:=by show pX C S _ T (un g (S.get C x)) (un g (S.get C y)) false=_;rw[hx,hy];simp only[pX,hm.mt,xz,hh,Jk];cases fB eq l k<;>rfl
theorem ajR [hm:uW C T kind (ev c5)][hk:uT fh kind eq](hx:un g (S.get C x)= .im (l.map (lT fh ev)):=by first|exact rfl|exact cm)(hy:un g (S.get C y)= .val (fh k):=by first|exact rfl|exact cm):bN C f call S g ⟨some d, .lookup T x y true,ty,pos,bn,bP⟩=some ⟨[(d, .bG [.val (ev ((fB eq l k).getD c5)),B (fB eq l k).isSome])],[],[]⟩:=by show pX C S _ T (un g (S.get C x)) (un g (S.get C y)) true=_;rw[hx,hy];simp only[pX,hm.mt,xz,Jk];cases fB eq l k<;>rfl
theorem Vk{s5:Value}[hm:uW C T kind s5][hk:uT fh kind eq][hv:Ex ev](hx:un g (S.get C x)= .mr id:=by first|exact rfl|exact cm)(hh:S.h id=some (some (l.map (lT fh ev))):=by exact rfl)(hy:un g (S.get C y)= .val (fh k):=by first|exact rfl|exact cm)(hz:un g (S.get C z)= .val (ev v):=by first|exact rfl|exact cm):bN C f call S g ⟨none, .mapUpdate T x y z,ty,pos,bn,bP⟩=some ⟨[],[id],[(id,some ((ie eq l k v).map (lT fh ev)))]⟩:=by show pY C S _ T (un g (S.get C x)) (un g (S.get C y)) (un g (S.get C z))=_;rw[hx,hy,hz];simp[pY,hm.mt,hh,OR,hk.sc,hv.sc,put]
theorem Vd{s5:Value}[hm:uW C T kind s5][hk:uT fh kind eq][hv:Ex ev](hx:un g (S.get C x)= .mr id:=by first|exact rfl|exact cm)(hh:S.h id=some (some (l.map (lT fh ev))):=by exact rfl)(hy:un g (S.get C y)= .val (fh k):=by first|exact rfl|exact cm)(hz:un g (S.get C z)= .val (ev v):=by first|exact rfl|exact cm):bN C f call S g ⟨none, .insert T x y z,ty,pos,bn,bP⟩=some ⟨[],[id],[(id,some ((ie eq l k v).map (lT fh ev)))]⟩:=by show pY C S _ T (un g (S.get C x)) (un g (S.get C y)) (un g (S.get C z))=_;rw[hx,hy,hz];simp[pY,hm.mt,hh,OR,hk.sc,hv.sc,put]
end
end Go.Ab
namespace Go.Ab
open Go
inductive gC(σ ck:Type)where|go(s:σ)|ret(t:ck)|ex(t:ck)
def gL{α σ ck:Type}(step:α→σ→Option (gC σ ck)):List α→σ→Option (gC σ ck)|[],s=>some (.go s)|y::ys,s=>(step y s).bind fun z=>match z with| .go s'=>gL step ys s'|z=>some z
def gC.on{σ ck ρ:Type}(zS:σ→Option ρ)(ry zR:ck→Option ρ):gC σ ck→Option ρ| .go s=>zS s| .ret s=>ry s| .ex s=>zR s
section
variable{C:aU}{f:FuncId}{call:hM}{S:an}{Q:Exit×an→Prop}{assign body:Code}{α σ ck ρ:Type}{r:ρ}{rep:σ→an}{ga:ck→an}{enc:α→List aa}{dL:Operand}{ps:Array Tmp}{j:Nat}
def IB(o:Option (Bool×List Nat))(rep:σ→an)(ga:ck→an)(j:Nat)(z:gC σ ck)(x:Exit×an):Prop:=match z with| .go s=>x.1= .normal∧eH o x.2=some (rep s)| .ret s=>x.1= .ret∧eH o x.2=some (ga s)| .ex s=>x.1= .exit j∧eH o x.2=some (ga s)
def Lq(C:aU)(f:FuncId)(call:hM)(body:Code)(Q:Exit×an→Prop)(x:Exit×an):Prop:=x.1= .normal∧W C f call body x.2 Q
theorem Hu{S:an}(h:W C f call body S Q):Lq C f call body Q (.normal,S):=⟨rfl,h⟩
theorem ams{step:α→σ→Option (gC σ ck)}{ys:List α}{e9:σ}{zS:σ→Option ρ}{ry zR:ck→Option ρ}(rep:σ→an)(ga:ck→an)(j:Nat)(hF:(gL step ys e9).bind (gC.on zS ry zR)=some r)(hg:CD C (un true (S.get C dL))=some (ys.map enc))(h0:eH (Ae C f assign body) S=some (rep e9))(R:α→σ→an)(hR:∀y s,Hx (rep s) ps.toList (enc y)=some (R y s))(round:∀y s z,step y s=some z→W C f call assign (R y s) (Lq C f call body (IB (Ae C f assign body) rep ga j z)))(aj:∀s,zS s=some r→Q (.normal,rep s))(pr:∀s,ry s=some r→Q (.ret,ga s))(GM:∀s,zR s=some r→Q (.exit j,ga s)):W C f call (.rangeFunc dL ps assign body) S Q:=by obtain⟨v,h1,h2⟩:=Option.bind_eq_some_iff.1 hF;have key:∀(ys:List α)(s:σ),gL step ys s=some v→∃x,sk (fun cg=>(c6 C f call lz assign cg).bind fun x=>match x.1 with| .normal=>c6 C f call lz body x.2|_=>none) (eH (Ae C f assign body)) ps.toList (ys.map enc) (rep s)=some x∧Q x:=by{intro ys;induction ys with|nil=>(intro s h;simp only[gL,Option.some.injEq]at h;subst h;exact⟨_,rfl,aj s h2⟩)|cons y ys ih=>intro s h;simp only[gL,Option.bind_eq_some_iff]at h;obtain⟨z,hz,h⟩:=h;obtain⟨⟨e,cg⟩,g1,rfl,⟨e2,ei⟩,g2,g3⟩:=round y s z hz;simp only[List.map_cons,sk,hR,Option.bind_some,g1,g2];cases z with|go s'=>(obtain⟨rfl,g3⟩:=g3;simp only at g3;simp only[g3,Option.bind_some];exact ih s' h)|ret s'=>(obtain⟨rfl,g3⟩:=g3;simp only[Option.some.injEq]at h;subst h;simp only at g3;simp only[g3,Option.bind_some];exact⟨_,rfl,pr s' h2⟩)|ex s'=>obtain⟨rfl,g3⟩:=g3;simp only[Option.some.injEq]at h;subst h;simp only at g3;simp only[g3,Option.bind_some];exact⟨_,rfl,GM s' h2⟩};obtain⟨x,h3,h4⟩:=key ys e9 h1;refine⟨x, ?_,h4⟩;simp only[c6,hg,Option.bind_some,h0];exact h3
theorem Hw{step:α→σ→Option (gC σ ck)}{ys:List α}{e9:σ}{zS:σ→Option ρ}{ry zR:ck→Option ρ}(rep:σ→an)(ga:ck→an)(j:Nat)(hF:(gL step ys e9).bind (gC.on zS ry zR)=some r)(hg:CD C (un true (S.get C dL))=some (ys.map enc))(h0:eH (Ae C f assign body) S=some (rep e9)){n:Nat}(hn:∀s,(rep s).n=n)(hl:∀y,ps.toList.length=(enc y).length)(hp:(ps.toList.all fun p=>Nat.blt p n)=true)(round:∀y s z,step y s=some z→W C f call assign ⟨(rep s).n,vO (rep s).t (ps.toList.zip (enc y)),(rep s).h⟩ (Lq C f call body (IB (Ae C f assign body) rep ga j z)))(aj:∀s,zS s=some r→Q (.normal,rep s))(pr:∀s,ry s=some r→Q (.ret,ga s))(GM:∀s,zR s=some r→Q (.exit j,ga s)):W C f call (.rangeFunc dL ps assign body) S Q:=ams rep ga j hF hg h0 (fun y s=>⟨(rep s).n,vO (rep s).t (ps.toList.zip (enc y)),(rep s).h⟩) (fun y s=>by unfold Hx;rw[if_pos ⟨hl y,by rw[List.all_eq_true]at hp⊢;intro p ahE;rw[decide_eq_true_eq,hn];exact of_decide_eq_true (m4 (hp p ahE))⟩]) round aj pr GM
theorem xQ{o:Option (Bool×List Nat)}{z:gC σ ck}{s:σ}{S:an}(hF:some (gC.go s)=some z)(h:eH o S=some (rep s)):IB o rep ga j z (.normal,S):=by cases hF;exact⟨rfl,h⟩
theorem xR{o:Option (Bool×List Nat)}{z:gC σ ck}{s:ck}{S:an}(hF:some (gC.ret s)=some z)(h:eH o S=some (ga s)):IB o rep ga j z (.ret,S):=by cases hF;exact⟨rfl,h⟩
end
section
variable{C:aU}{f:FuncId}{call:hM}{c:Code}{Q:Exit×an→Prop}{n:Nat}{t t2:Nat→aa}{h:Id→Option (Option Rows)}{l:List Nat}{vs:List aa}{zs:List (Nat×aa)}
theorem KR(k:W C f call c ⟨n,t2,h⟩ Q)(hm:aG n l vs=⟨n,t,h⟩:=by exact Km)(ht:vO t zs=t2:=by exact rfl):W C f call c ⟨(aG n l vs).n,vO (aG n l vs).t zs,(aG n l vs).h⟩ Q:=by subst ht;rw[hm];exact k
theorem amE{l:List (Nat×aa)}{h:List (Id×Rows)}(k:W C f call c ⟨n,t2,kR h⟩ Q)(ht:vO (dF (fun _=> .bH) l) zs=t2:=by exact rfl):W C f call c ⟨(iS n l h).n,vO (iS n l h).t zs,(iS n l h).h⟩ Q:=by subst ht;exact k
end
end Go.Ab
namespace Go.Ab
open Go
instance:jF j0:=⟨fun x=>by cases x<;>rfl⟩
instance:rW j0:=⟨fun x=>by cases x<;>rfl,fun x=>by cases x<;>rfl⟩
instance:Iv j0 j0:=⟨fun x=>by cases x<;>rfl⟩
theorem akL(o:Option Int):fU (lC o)=true:=by cases o<;>rfl
theorem akM(q:List (Option Int)):(q.map j0).all Cw=true:=by induction q with|nil=>(rfl)|cons o q ih=>simp only[List.map_cons,List.all_cons,ih,Bool.and_true,j0];cases o<;>rfl
theorem alK{P:Program}{T e:TypeId}{d:Nat}(hu:P.underlying T=some (.pointer e)):dV P (Op.equalIn (d+1) T (.pointer none) (.pointer none))=some true:=by unfold Op.equalIn;rw[jQ,vN hu];rfl
section
variable{C:aU}{f:FuncId}{call:hM}{S:an}{g:Bool}{d:Nat}{ty:TypeId}{pos:String}{bn:Array Edge}{bP:Option (Nat×Bool)}
theorem xD{cS x:Operand}{ts:Array TypeId}{dN:FuncId}{cells:List aa}{id g7:Id}{n:Nat}{i c:Int}{kids:List Int}{q:List (Option Int)}{el:Option Int}(h1:idx kids i=some c)(h2:idx q c=some el)(hfo:un g (S.get C cS)= .fn (.func dN) [] [.mp id 0 0, .ax cells]:=by exact rfl)(hx:un g (S.get C x)= .val (.int .i64 i):=by first|exact rfl|exact D8|exact cm)(hlk:C.look dN=true:=by exact rfl)(MS:cells[4]? =some (.sl (kids.map fun k=>[.val (.int .i64 k)])):=by exact rfl)(hid:S.h id=some (some [[.rs g7 0 n]]):=by exact rfl)(zc:S.h g7=some (some (q.map j0)):=by exact rfl)(hn:n=q.length:=by exact uj)(ht:AD C cS=false:=by exact rfl)(sD:pathOf C cS=none:=by exact rfl)(ey:C.dy dN=false:=by exact rfl):bN C f call S g ⟨some d, .call ⟨.value cS, #[x],ts⟩,ty,pos,bn,bP⟩=some ⟨[(d,lC el)],[id,g7],[]⟩:=by rw[Ja (JA hfo ey)];rw[sD];simp only;rw[ht];simp only[Bool.false_eq_true,if_false];rw[hfo];have a1:0≤i∧kids[i.toNat]? =some c:=by{unfold idx at h1;split at h1;·{exact⟨by assumption,h1⟩};·cases h1};have a2:0≤c∧q[c.toNat]? =some el:=by{unfold idx at h2;split at h2;·{exact⟨by assumption,h2⟩};·cases h2};have b1:(kids.map fun k=>[aa.val (.int .i64 k)])[i.toNat]? =some [.val (.int .i64 c)]:=by{rw[List.getElem?_map,a1.2];rfl};have b2:(q.map j0)[c.toNat]? =some [lC el]:=by{rw[List.getElem?_map,a2.2];rfl};simp only[r7,hlk,if_true,List.map_cons,List.map_nil,hx,List.nil_append,List.cons_append,xy,MS,hid,zc,b1,b2];rw[if_pos ⟨a1.1,a2.1,by rw[hn,List.length_map],akM q,akL el,rfl⟩];rfl
theorem xE{x:Operand}{e:Option Int}{n:Int}(he:e=some n)(hx:un g (S.get C x)=lC e:=by first|exact rfl|exact D8|exact cm):bN C f call S g ⟨some d, .nilCheck x,ty,pos,bn,bP⟩=some ⟨[(d, .ax [I n])],[],[]⟩:=by show BD _ (un g (S.get C x))=_;rw[hx,he];rfl
theorem Oy{x:Operand}{T dY:TypeId}{el:TypeId}{e:Option Int}[hu:ff C T (.pointer el)](hx:un g (S.get C x)=lC e:=by first|exact rfl|exact D8|exact cm):bN C f call S g ⟨some d, .binOp .eql T x (.const (.pointer none)) dY,ty,pos,bn,bP⟩=some ⟨[(d,B e.isNone)],[],[]⟩:=by show tv C _ .eql T x (.const (.pointer none)) (un g (S.get C x)) (.val (.pointer none))=_;rw[hx];cases e with|none=>(have hb:eZ C.P .eql T x (.const (.pointer none)) (.pointer none) (.pointer none)=some (.bool true):=by{show dV C.P (do let b←Op.equalIn (9999+1) T (.pointer none) (.pointer none);pure (Value.bool b))=_;rw[jQ,alK hu.ul];rfl};simp only[tv,lC,o9,hb,mR,e4,ret,put];rfl)|some n=>simp only[tv,lC,o9,hu.ul,OQ];rfl
end
end Go.Ab
namespace Go.Ab
open Go
section
variable{n:Nat}{t:Nat→aa}{h L:Id→Option (Option Rows)}
/-! ### Opened, frozen -/
theorem dZ{p s row off:Nat}{id:Id}{r r':List aa}{x:Id×Option Rows}{wr:List (Id×Option Rows)}(hs:t s= .mp id row off:=by exact rfl)(hid:h id=some (some [r]):=by exact rfl)(hu:bZ [p,s] 0 r=(r',x::wr):=by exact yd)(NI:Nat.blt s n=true:=by exact rfl)(hf:fresh h (x::wr)=true:=by exact rfl):sO p ⟨n,t,h⟩ s=some ⟨n,t,bD h ((id,some [r'])::x::wr)⟩:=akJ hs hid hu NI hf
theorem akK{p s row off:Nat}{id:Id}{r r':List aa}(hs:t s= .mp id row off:=by exact rfl)(hid:h id=some (some [r]):=by exact rfl)(hu:bZ [p,s] 0 r=(r',[]):=by exact yd):sO p ⟨n,t,h⟩ s=some ⟨n,t,h⟩:=by unfold sO;simp only[hs,hid,hu,List.isEmpty_nil,if_true]
/-! ### Names of what arguments lead to -/
def UI:aa→Bool| .fn _ as cs=> !(as.isEmpty&&cs.isEmpty)| .rs _ _ _=>true| .mp _ _ _=>true| .mr _=>true| .agg _=>true|_=>false
variable{m j:Nat}{b:Bool}{p i:Id}{acc acc' pP y l:List (Id×Id)}{a:aa}{as cs eT:List aa}
theorem RC(hx:eT=[])(e:acc=y):eU L m b p j acc eT=y:=by subst hx;cases m<;>exact e
theorem acM(hx:eT=a::as)(hs:UI a=false)(k:eU L m b p (j+1) acc as=y):eU L (m+1) b p j acc eT=y:=by subst hx;cases a with|fn f xs cs=>(simp only[UI,Bool.not_eq_false',Bool.and_eq_true,List.isEmpty_iff]at hs;obtain⟨rfl,rfl⟩:=hs;have e:eU L m true (j::p) 0 acc ([]++[])=acc:=by{cases m<;>rfl};simp only[eU,e];exact k)|_=>first|exact k|cases hs
theorem acL{o q:Nat}(hx:eT= .rs i o q::as)(hn:(!b||(gx acc i).isSome)=true)(k:eU L m b p (j+1) acc as=y):eU L (m+1) b p j acc eT=y:=by subst hx;simp only[eU,hn];exact k
theorem acJ{o q:Nat}(hx:eT= .mp i o q::as)(hn:(gx acc i).isSome=false)(hh:L i=some (some [cs]))(hl:acc++[(i,j::p)]=acc')(h1:eU L m false (j::p) 0 acc' cs=pP)(k:eU L m b p (j+1) pP as=y):eU L (m+1) b p j acc eT=y:=by subst hx hl h1;simp only[eU,hn,hh];exact k
theorem acK{o q:Nat}(hx:eT= .mp i o q::as)(hn:(gx acc i).isSome=true)(k:eU L m b p (j+1) acc as=y):eU L (m+1) b p j acc eT=y:=by subst hx;simp only[eU,hn];exact k
theorem acH(hx:eT= .agg cs::as)(h1:eU L m b (j::p) 0 acc cs=pP)(k:eU L m b p (j+1) pP as=y):eU L (m+1) b p j acc eT=y:=by subst hx h1;simp only[eU];exact k
theorem acI{f:Fn}{xs:List aa}(hx:eT= .fn f xs cs::as)(h1:eU L m true (j::p) 0 acc (xs++cs)=pP)(k:eU L m b p (j+1) pP as=y):eU L (m+1) b p j acc eT=y:=by subst hx h1;simp only[eU];exact k
theorem RD(k:eU L m b p j acc eT=y:=by(repeat'(first|((with_reducible apply RC);(with_reducible exact rfl);exact rfl)|((with_reducible apply acM);exact rfl;first|exact rfl|exact aq8|exact aq9)|((with_reducible apply aoN);exact rfl;exact rfl;exact spine)|((with_reducible apply acL);exact rfl;exact rfl)|((with_reducible apply aoL);exact rfl;exact rfl;exact spine)|((with_reducible apply aoM);exact rfl;exact rfl)|((with_reducible apply acK);exact rfl;exact rfl)|((with_reducible apply acJ);exact rfl;exact rfl;exact rfl;exact spine)|((with_reducible apply acH);exact rfl)|((with_reducible apply acI);exact rfl)|(apply RC;exact rfl;exact rfl)));first|done|fail):eU L m b p j acc eT=y:=k
/-! ### The objects that go -/
variable{o k:Id}{r l':List (Id×Id)}{rows x1 bB:Rows}{i1 i2 gone ids:List Id}{obs outs:List aa}{keep:Id→Bool}{back:List (Id×Option Rows)}
theorem adl(hf:eX rows=true):oE L keep rows=some (rows,[]):=by simp only[oE,hf,if_true]
theorem adm(hf:eX rows=false)(hc:eB (mg L keep) rows=some (bB,ids)):oE L keep rows=some (bB,ids):=by simp[oE,hf,hc]
theorem RQ{y:Option (Rows×List Id)}(k:oE L keep rows=y:=by(repeat'(first|(apply adl;first|exact qX _|exact rfl|exact Mj)|(apply aoS;exact rfl;exact rfl;(first|(with_reducible assumption)|assumption);exact inferInstance;rotate_left;exact rfl)|(apply adm;exact rfl)|exact SN|(apply SO;exact rfl)|exact adj|(apply RO;exact rfl)|exact LV|exact LW|exact Rx|exact LX|(apply Rz;exact rfl;exact rfl;exact n9)|(apply LY;exact rfl;exact rfl;exact n9)|(apply Ry;exact rfl;exact rfl;exact n9)|(apply E1;first|exact rfl|exact SD|exact SG|exact SE)|exact Rw|exact BF|(apply Fl;exact rfl)));first|done|fail):oE L keep rows=y:=k
theorem aj1:je L l []=some ([],[]):=rfl
theorem aj0(h:L o=some (some rows))(hc:oE L (vG l) rows=some (x1,i1))(hr:nB l x1=some bB)(hy:je L l r=some (obs,gone)):je L l ((o,k)::r)=some (.cz k bB::obs,i1++gone):=by simp[je,h,hc,hr,hy]
theorem Vv{y:Option (List aa×List Id)}(k:je L l r=y:=by(repeat'(first|exact aj1|(apply aj0;exact rfl;exact RQ;(first|exact O3|exact O4|exact O5))));first|done|fail):je L l r=y:=k
theorem abB:jr l' [] []=some []:=rfl
theorem abz(hr:nB l' rows=some bB)(hy:jr l' r outs=some back):jr l' ((o,k)::r) (.cz k rows::outs)=some ((o,some bB)::back):=by simp[jr,hr,hy]
theorem abA(hy:jr l' r outs=some back):jr l' ((o,k)::r) (.bH::outs)=some ((o,none)::back):=by simp[jr,hy]
theorem acP:kK L []=[]:=rfl
theorem acO{x:Id×Option Rows}{gb:List (Id×Option Rows)}(hs:Aw L x=true)(k:kK L gb=back):kK L (x::gb)=back:=by unfold kK at*;rw[List.filter_cons_of_neg (by simp[hs])];exact k
theorem acN{x:Id×Option Rows}{gb:List (Id×Option Rows)}(hs:Aw L x=false)(k:kK L gb=back):kK L (x::gb)=x::back:=by unfold kK at*;rw[List.filter_cons_of_pos (by simp[hs]),k]
theorem RG{gb:List (Id×Option Rows)}{y:List (Id×Option Rows)}(k:kK L gb=y:=by(repeat'(first|exact acP|(apply acO;exact rfl)|(apply acN;first|exact ar2|exact rfl)));first|done|fail):kK L gb=y:=k
theorem Re{y:Option (List (Id×Option Rows))}(k:jr l' r outs=y:=by(repeat'(first|exact abB|(apply abz;(first|exact O3|exact O4|exact O5))|apply abA));first|done|fail):jr l' r outs=y:=k
/-! Values under other names -/
theorem amH(hf:flat a=true):fL l a=a:=by cases a with|agg cs=>(simp only[flat]at hf;simp[fL,Hs hf])|bG cs=>(simp only[flat]at hf;simp[fL,Hs hf])|fn f as cs=>(simp only[flat,Bool.and_eq_true]at hf;simp[fL,Hs hf.1,Hs hf.2])|rs _ _ _=>(simp[flat]at hf)|mp _ _ _=>(simp[flat]at hf)|mr _=>(simp[flat]at hf)|dM _ _=>(simp[flat]at hf)|cE=>(simp[flat]at hf)|_=>simp only[fL,sU,At];rw[if_pos hf]
theorem aei(hf:de cs=true):flat (.agg cs)=true:=hf
theorem aek{α:Type}{c:α→List aa}{x:α}[hc:jF c]:de (c x)=true:=hc.di x
theorem Mm{a:aa}(k:flat a=true:=by(repeat'(first|exact rfl|exact aej|exact aen|exact SF|(with_reducible apply aei)|(with_reducible apply apG)|exact aek|exact aem|(apply SC;exact rfl)));first|done|fail):flat a=true:=k
theorem Pb{a':aa}(k:fL l a=a':=by first|(refine amH ?_;exact Mm)|exact rfl):fL l a=a':=k
theorem amn(hx:eT=[]:=by exact rfl):eT.map (fL l)=[]:=by subst hx;rfl
theorem amm{a':aa}{bs:List aa}(hx:eT=a::as)(h:fL l a=a')(k:as.map (fL l)=bs):eT.map (fL l)=a'::bs:=by subst hx h k;rfl
theorem WG{bs:List aa}(k:eT.map (fL l)=bs:=by(repeat'(first|exact amn|(apply amm;exact rfl;exact Pb)));first|done|fail):eT.map (fL l)=bs:=k
end
section
variable{C:aU}{f:FuncId}{call:hM}{S:an}{g:Bool}{d:Nat}{ty:TypeId}{pos:String}{bn:Array Edge}{bP:Option (Nat×Bool)}
variable{cS:Operand}{ts:Array TypeId}{dN:FuncId}{as bs args CE obs outs GJ arO:List aa}{l:List (Id×Id)}{gone:List Id}{r v v':aa}{back IU kF wr:List (Id×Option Rows)}{xs:Array Operand}
theorem ad6{d':Option Tmp}(hfo:un g (S.get C cS)= .fn (.func dN) as bs)(ey:C.dy dN=true):bN C f call S g ⟨d', .call ⟨.value cS,xs,ts⟩,ty,pos,bn,bP⟩=r8 C f call S ⟨d', .call ⟨.value cS,xs,ts⟩,ty,pos,bn,bP⟩ dN (as++(xs.toList.map fun x=>un g (S.get C x))++bs):=by show(match oK C (un g (S.get C cS))with|some x=>r8 C f call S _ x.1 (x.2.1++(xs.toList.map fun x=>un g (S.get C x))++x.2.2)|none=>_)=_;have:oK C (un g (S.get C cS))=some (dN,as,bs):=by{rw[hfo];simp[oK,ey]};rw[this]
theorem Rt(hc:call dN (.bG obs::CE)=some (r,outs))(hfo:un g (S.get C cS)= .fn (.func dN) as bs)(ey:C.dy dN=true)(ha:as++(xs.toList.map fun x=>un g (S.get C x))++bs=args)(hl:eU S.h 60 true [kj] 0 [] args=l)(ho:je S.h l l=some (obs,gone))(FZ:args.map (fL l)=CE)(tQ:(eR (l.map (·.1))&&eR (l.map (·.2))&&(l.all fun x=>ki x.2)&&eR gone&&vg gone (l.map (·.1)))=true)(hb:jr (l.map fun x=>(x.2,x.1)) l outs=some back)(hp:Ca r=false)(hv:fL (l.map fun x=>(x.2,x.1)) (if fc C f (some d)then(if flat r then eC r else .bH)else r)=v)(hi:imp [d] v=(v',kF))(hf:fresh S.h kF=true)(hw:kF++(kK S.h back++gone.map fun i=>(i,none))=wr):bN C f call S g ⟨some d, .call ⟨.value cS,xs,ts⟩,ty,pos,bn,bP⟩=some ⟨[(d,v')],l.map (·.1),wr⟩:=by rw[ad6 hfo ey,ha];subst hw;have e:tF call S.h dN args=some ⟨r,l,back,gone⟩:=by{unfold tF Fu;rw[hl,ho];simp only[tQ,if_true,FZ,hc,hb,Option.map_some]};unfold r8;rw[e];simp only[Option.bind_some,hp,Bool.false_eq_true,if_false,js,hv,hi,hf,if_true];rfl
theorem mN(hc:call dN (.bG obs::CE)=some (r,outs)){rd:List Id}(hfo:un g (S.get C cS)= .fn (.func dN) as bs:=by exact rfl)(ey:C.dy dN=true:=by exact rfl)(ha:as++(xs.toList.map fun x=>un g (S.get C x))++bs=args:=by exact spine)(hl:eU S.h 60 true [kj] 0 [] args=l:=by exact RD)(ho:je S.h l l=some (GJ,gone):=by exact Vv)(FV:GJ=obs:=by exact rfl)(FZ:args.map (fL l)=CE:=by exact WG)(tQ:(eR (l.map (·.1))&&eR (l.map (·.2))&&(l.all fun x=>ki x.2)&&eR gone&&vg gone (l.map (·.1)))=true:=by exact rfl)(hb:jr (l.map fun x=>(x.2,x.1)) l outs=some back:=by exact Re)(hp:Ca r=false:=by exact rfl)(hz:(C.e7 f).contains d=false:=by exact rfl)(hv:fL (l.map fun x=>(x.2,x.1)) r=v:=by exact Pb)(hi:imp [d] v=(v',kF):=by exact zG)(hf:fresh S.h kF=true:=by exact rfl)(gZ:kK S.h back=IU:=by exact RG)(hw:kF++(IU++gone.map fun i=>(i,none))=wr:=by exact spine)(hrd:l.map (·.1)=rd:=by exact spine):bN C f call S g ⟨some d, .call ⟨.value cS,xs,ts⟩,ty,pos,bn,bP⟩=some ⟨[(d,v')],rd,wr⟩:=by subst hrd FV;exact Rt hc hfo ey ha hl ho FZ tQ hb hp (by simp only[fc,hz,Bool.false_eq_true,if_false];exact hv) hi hf (by rw[gZ];exact hw)
theorem fP(hc:call dN (.bG obs::CE)=some (r,outs)){rd:List Id}{v0:aa}(hfo:un g (S.get C cS)= .fn (.func dN) as bs:=by exact rfl)(ey:C.dy dN=true:=by exact rfl)(ha:as++(xs.toList.map fun x=>un g (S.get C x))++bs=args:=by exact spine)(hl:eU S.h 60 true [kj] 0 [] args=l:=by exact RD)(ho:je S.h l l=some (GJ,gone):=by exact Vv)(FV:GJ=obs:=by exact rfl)(FZ:args.map (fL l)=CE:=by exact WG)(tQ:(eR (l.map (·.1))&&eR (l.map (·.2))&&(l.all fun x=>ki x.2)&&eR gone&&vg gone (l.map (·.1)))=true:=by exact rfl)(hb:jr (l.map fun x=>(x.2,x.1)) l outs=some back:=by exact Re)(hp:Ca r=false:=by exact rfl)(hz:(C.e7 f).contains d=true:=by exact rfl)(hfl:flat r=true:=by exact Mm)(hfz:eC r=v0:=by exact Jy)(hv:fL (l.map fun x=>(x.2,x.1)) v0=v:=by exact Pb)(hi:imp [d] v=(v',kF):=by exact zG)(hf:fresh S.h kF=true:=by exact rfl)(gZ:kK S.h back=IU:=by exact RG)(hw:kF++(IU++gone.map fun i=>(i,none))=wr:=by exact spine)(hrd:l.map (·.1)=rd:=by exact spine):bN C f call S g ⟨some d, .call ⟨.value cS,xs,ts⟩,ty,pos,bn,bP⟩=some ⟨[(d,v')],rd,wr⟩:=by subst hrd FV;exact Rt hc hfo ey ha hl ho FZ tQ hb hp (by simp only[fc,hz,if_true,hfl,hfz];exact hv) hi hf (by rw[gZ];exact hw)
end
/-! ### Functions -/
def Ee:Nat→List aa→List (Nat×aa)|_,[]=>[]|i,p::ps=>(i,p)::Ee (i+1) ps
theorem X8:∀(ps:List aa)(i t:Nat),dF (fun _=> .bH) (Ee i ps) t=if t<i then .bH else ps.getD (t-i) .bH|[],i,t=>by{simp[Ee,dF]}|p::ps,i,t=>by simp only[Ee,dF,aC];by_cases e:t=i;·{subst e;simp};·rw[if_neg e,X8 ps (i+1) t];by_cases h1:t<i;·{rw[if_pos h1,if_pos (by omega)]};·rw[if_neg h1,if_neg (by omega),show t-i=(t-(i+1))+1 by omega];rfl
def Le(C:aU)(f:FuncId)(rv:List ResultVar)(ks:List Id)(r:aa)(outs:List aa)(x:Exit×an):Prop:=(x.1= .ret∨x.1= .normal)∧∃S al vs i1 i2,sJ (C.wJ f) x.2=S∧(ks.filter fun k=>nZ (S.h k))=al∧nC C S (oF S.h fun i=>al.contains i) rv=some (vs,i1)∧mO S.h (fun i=>al.contains i) ks=some (outs,i2)∧eR (al++(i1++i2))=true∧z5 vs=r
section
variable{C:aU}{f:FuncId}{S:an}{rv:List ResultVar}{ks al:List Id}{vs outs outs' cs cs':List aa}{ids is i1 i2:List Id}{r v v' x:aa}{p:aa→Option (aa×List Id)}{L:Id→Option (Option Rows)}{keep:Id→Bool}{rows bB:Rows}{k:Id}{T:TypeId}
theorem amx:nC C S p []=some ([],[]):=rfl
theorem amz{t:Nat}(h:p (un true (S.t t))=some (v,ids))(hr:nC C S p rv=some (vs,is)):nC C S p (.tmp t::rv)=some (v::vs,ids++is):=by show(xP C S p (.tmp t)).bind _=_;simp only[xP,h,Option.bind_some,hr,Option.map_some]
theorem amy{a m:Nat}{id:Id}{bb:Bool}{r:List aa}[ha:dO C T bb m](hx:un true (S.t a)= .mp id 0 0)(hh:S.h id=some (some [r]))(hl:Nat.ble m r.length=true)(hv:kS bb (r.take m)=some v)(h:p v=some (v',ids))(hr:nC C S p rv=some (vs,is)):nC C S p (.cell a T::rv)=some (v'::vs,id::ids++is):=by show(xP C S p (.cell a T)).bind _=_;have hl':0+m≤r.length:=by{have:=Nat.le_of_ble_eq_true hl;omega};simp only[xP,ha.l9,ha.sz,hx,hh,List.getElem?_cons_zero,if_pos hl',List.drop_zero,hv,Option.bind_some,h,hr,Option.map_some]
theorem RH:∀{cs:List aa},de cs=true→ew (hY L keep) cs=some (cs,[])|[],_=>rfl|c::cs,h=>by simp only[de,Bool.and_eq_true]at h;simp only[ew,E1 h.1,Option.bind_some,RH h.2,Option.map_some];rfl
theorem ads(hf:flat x=true):oF L keep x=some (x,[]):=by cases x with|agg cs=>(simp only[flat]at hf;simp only[oF,RH hf,Option.map_some])|_=>exact E1 (h:=L) (keep:=keep) hf
theorem adq(hx:x= .agg cs:=by exact rfl)(h:ew (hY L keep) cs=some (cs',ids)):oF L keep x=some (.agg cs',ids):=by subst hx;simp only[oF,h,Option.map_some]
def isAgg:aa→Bool| .agg _=>true|_=>false
theorem adw(hx:isAgg x=false)(h:hY L keep x=some (v,ids)):oF L keep x=some (v,ids):=by cases x<;>first|exact h|cases hx
theorem L7{y:Option (aa×List Id)}(k:oF L keep x=y:=by(repeat'(first|(refine ads ?_;exact Mm)|(apply adq;exact rfl)|(apply adw;exact rfl)|exact LV|exact LW|exact Rx|exact LX|(apply Rz;exact rfl;exact rfl;exact n9)|(apply LY;exact rfl;exact rfl;exact n9)|(apply Ry;exact rfl;exact rfl;exact n9)|(apply E1;first|exact rfl|exact SD|exact SG|exact SE)|exact Rw|exact BF|(apply Fl;exact rfl)));first|done|fail):oF L keep x=y:=k
theorem amA{y:Option (List aa×List Id)}(h:nC C S (oF L keep) rv=y:=by repeat'(first|with_reducible exact amx|((with_reducible apply amz);exact L7)|((with_reducible apply amy);exact rfl;exact rfl;exact rfl;(first|exact Kk|exact Kl rfl);exact L7)|((with_reducible apply arY);exact rfl;exact rfl;(first|exact Kk|exact Kl rfl);exact L7))):nC C S (oF L keep) rv=y:=h
theorem ajU:mO L keep []=some ([],[]):=rfl
theorem ajS(h:L k=some (some rows))(hc:oE L keep rows=some (bB,i1))(hy:mO L keep ks=some (outs,i2)):mO L keep (k::ks)=some (.cz k bB::outs,i1++i2):=by simp[mO,h,hc,hy]
theorem ajT(h:nZ (L k)=false)(hy:mO L keep ks=some (outs,i2)):mO L keep (k::ks)=some (.bH::outs,i2):=by unfold mO;split;·{rename_i rows e;rw[e]at h;cases h};·rw[hy];rfl
theorem ajV{y:Option (List aa×List Id)}(h:mO L keep ks=y:=by(repeat'(first|exact ajU|(apply ajS;exact rfl;exact RQ)|(apply ajT;exact rfl)));first|done|fail):mO L keep ks=y:=h
theorem ael{p:Id→Bool}:List.filter p []=([]:List Id):=rfl
theorem aeq{p:Id→Bool}{k:Id}{ks al:List Id}(h:p k=true)(hy:List.filter p ks=al):List.filter p (k::ks)=k::al:=by rw[List.filter_cons_of_pos h,hy]
theorem aer{p:Id→Bool}{k:Id}{ks al:List Id}(h:p k=false)(hy:List.filter p ks=al):List.filter p (k::ks)=al:=by rw[List.filter_cons_of_neg (by simp[h]),hy]
theorem aey{p:Id→Bool}{y:List Id}(h:List.filter p ks=y:=by(repeat'(first|exact ael|(apply aeq;exact rfl)|(apply aer;exact rfl)));first|done|fail):List.filter p ks=y:=h
theorem aiR{S:an}{l:List Id}(hl:l=[]:=by exact rfl):sJ l S=S:=by subst hl;rfl
theorem aiS{n:Nat}{t:Nat→aa}{h:Id→Option (Option Rows)}{l l2:List Id}(hl:l=l2:=by exact spine):sJ l ⟨n,t,h⟩=⟨n,t,bD h (l2.map fun i=>(i,none))⟩:=by subst hl;rfl
theorem aiT{S S':an}{l:List Id}(k:sJ l S=S':=by first|exact aiR|exact aiS):sJ l S=S':=k
theorem iL{k3:an}(hk:sJ (C.wJ f) k3=S:=by exact aiT)(ha:(ks.filter fun k=>nZ (S.h k))=al:=by exact aey)(h:nC C S (oF S.h fun i=>al.contains i) rv=some (vs,i1):=by exact amA)(ho:mO S.h (fun i=>al.contains i) ks=some (outs',i2):=by exact ajV)(FV:outs'=outs:=by exact rfl)(hn:eR (al++(i1++i2))=true:=by exact rfl)(hr:z5 vs=r:=by exact rfl):Le C f rv ks r outs (.ret,k3):=by subst FV;exact⟨.inl rfl,S,al,vs,i1,i2,hk,ha,h,ho,hn,hr⟩
theorem oH{fn:Func}{c:Code}{obs args:List aa}{hl:List (Id×Rows)}{zs:List (Nat×aa)}{nn N:Nat}(hf:C.P.funcs[f]? =some fn)(hn:fn.ntmps=N)(hr:fn.results.toList=rv)(k:qI kj (C.ko f kj) [] (fun k3=>W C f (den C nn) c k3 (Le C f rv ks r outs)) ⟨N,dF (fun _=> .bH) zs,kR hl⟩)(hb:fn.body=some c:=by exact rfl)(he:C.ext f=none:=by exact rfl)(ey:C.dy f=true:=by exact rfl)(hl':Nat.ble args.length N=true:=by exact rfl)(bA:Nat.ble N kj=true:=by exact rfl)(ho:sN obs=some hl:=by exact rfl)(hz:Ee 0 args=zs:=by exact spine)(hk:hl.map (·.1)=ks:=by exact spine):den C (nn+1) f (.bG obs::args)=some (r,outs):=by obtain⟨k3,h0,cg,h1,⟨e,s⟩,h2,h3,aos,al,vs,i1,i2,kQ,h4,h5,h6,h7,h8⟩:=k;simp only[mu,Option.some.injEq]at h1;subst h1;subst hr hn hz hk;show wM C (den C nn) lz f _=_;unfold wM;simp only[he,hf,hb,ey,if_true];unfold Jg;simp only[ho];rw[if_pos ⟨Nat.le_of_ble_eq_true hl',Nat.le_of_ble_eq_true bA⟩];have e0:HP fn.ntmps args hl=⟨fn.ntmps,dF (fun _=> .bH) (Ee 0 args),kR hl⟩:=by{unfold HP;congr 1;funext t;rw[X8];simp};rw[e0,h0];simp only[Option.bind_some,h2];have cG:yR C fn (hl.map (·.1)) (sJ (C.wJ f) s)=some (r,outs):=by{simp only at kQ;rw[kQ];unfold yR;simp only[h4,h5,h6,h7,if_true];rw[←h8];congr 2;cases vs with|nil=>(rfl)|cons a l=>cases l<;>rfl};rcases h3 with h3|h3;·{simp only at h3;subst h3;exact cG};·simp only at h3;subst h3;exact cG
end
end Go.Ab
