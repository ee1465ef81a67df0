import Derived.Test.YtbbhbdlljfffdaaGreatDoorAbV7
open Bool renaming false_eq_true→Hm,and_eq_true→Hn
open List renaming filter→GT,map_cons→Hc,getElem?_map→H0,filter_cons_of_neg→H1,filter_cons_of_pos→H2
open Nat renaming ble→Hd,le_of_ble_eq_true→Hk
open Option renaming bind_some→GE,map_some→Hb
open Option.some renaming injEq→Ha
set_option linter.all false
namespace Go.Ab
open Go
/-! ### Maps as lists of pairs -/
section
variable{K V:Type}
def gI(eq:K→K→Bool):List (K×V)→K→Option V|[],_=>none|e::l,k=>if eq k e.1 then some e.2 else gI eq l k
def qH(eq:K→K→Bool):List (K×V)→K→V→List (K×V)|[],k,v=>[(k,v)]|e::l,k,v=>if eq k e.1 then(k,v)::l else e::qH eq l k v
end
def Fx(a b:Int):Bool:=a==b
def jv(a b:ByteArray):Bool:=a==b
theorem Py{a b:ByteArray}:jv a b=true↔a=b:=⟨Ol,fun h=>by subst h;exact Om _⟩
class ud{K:Type}(eU:K→Value)(kind:outParam TypeDesc)(eq:outParam (K→K→Bool)):Prop where same:∀a b,Instr.sameNow kind (eU a) (eU b)=some (eq a b)sc:∀a,eC (eU a)=true
class Ie{V:Type}(ev:V→Value):Prop where sc:∀a,eC (ev a)=true
def oW(n:Int):Value:= .int .i64 n
def yI(s:ByteArray):Value:= .string s
def Br(b:Bool):Value:= .bool b
instance:ud oW (.int .i64) Fx:=⟨fun a b=>rfl,fun _=>rfl⟩
instance:ud yI .string jv:=⟨fun _ _=>rfl,fun _=>rfl⟩
instance:Ie oW:=⟨fun _=>rfl⟩
instance:Ie Br:=⟨fun _=>rfl⟩
def mw{K V:Type}(eU:K→Value)(ev:V→Value)(e:K×V):List U:=[.val (eU e.1), .val (ev e.2)]
section
variable{K V:Type}{eU:K→Value}{ev:V→Value}{kind:TypeDesc}{eq:K→K→Bool}
theorem FI [hk:ud eU kind eq]:∀(l:List (K×V))(k:K),pH kind (eU k) (l.map (mw eU ev))=some ((gI eq l k).map ev)|[],_=>rfl|e::l,k=>by simp only[Hc,mw,pH,hk.same,gI];cases h:eq k e.1 with|true=>(rfl)|false=>simpa[mw]using FI l k
theorem TH [hk:ud eU kind eq]:∀(l:List (K×V))(k:K)(v:V),x8 kind (eU k) (ev v) (l.map (mw eU ev))=some ((qH eq l k v).map (mw eU ev))|[],_,_=>rfl|e::l,k,v=>by simp only[Hc,mw,x8,hk.same,qH];cases h:eq k e.1 with|true=>(rfl)|false=>have:=TH l k v;simp[this,mw]
end
class vT(C:aL)(T:TypeId)(kind:outParam TypeDesc)(z:outParam Value):Prop where mt:Aw C T=some (kind,z)
section
variable{C:aL}{f:FuncId}{call:FuncId→List U→Option (U×List U)}{S:ah}{g:Bool}
variable{d:Nat}{ty:TypeId}{pos:String}{aZ:Array Edge}{bx:Option (Nat×Bool)}{x y z:Operand}{T:TypeId}
variable{K V:Type}{eU:K→Value}{ev:V→Value}{kind:TypeDesc}{eq:K→K→Bool}{cX:V}{l:List (K×V)}{k:K}{v:V}{id:Id}
theorem Lo{z0:Value}[hm:vT C T kind z0](hf:S.h [d]=none:=by exact rfl):bw C f call S g ⟨some d, .makeMap T none,ty,pos,aZ,bx⟩=some ⟨[(d, .mr [d])],[],[([d],some [])]⟩:=by show sV C S _ T none=_;simp[sV,hm.mt,hf,put]
theorem SC [hm:vT C T kind (ev cX)][hk:ud eU kind eq](hx:un g (S.get C x)= .mr id:=by first|exact rfl|exact bU)(hh:S.h id=some (some (l.map (mw eU ev))):=by exact rfl)(hy:un g (S.get C y)= .val (eU k):=by first|exact rfl|exact bU):bw C f call S g ⟨some d, .lookup T x y true,ty,pos,aZ,bx⟩=some ⟨[(d, .aY [.val (ev ((gI eq l k).getD cX)),B (gI eq l k).isSome])],[id],[]⟩:=by show oq C S _ T (un g (S.get C x)) (un g (S.get C y)) true=_;rw[hx,hy];simp only[oq,hm.mt,uZ,hh,FI];cases gI eq l k<;>rfl
theorem ahe [hm:vT C T kind (ev cX)][hk:ud eU kind eq](hx:un g (S.get C x)= .mr id:=by first|exact rfl|exact bU)(hh:S.h id=some (some (l.map (mw eU ev))):=by exact rfl)(hy:un g (S.get C y)= .val (eU k):=by first|exact rfl|exact bU):bw C f call S g ⟨some d, .lookup T x y false,ty,pos,aZ,bx⟩=some ⟨[(d, .val (ev ((gI eq l k).getD cX)))],[id],[]⟩:=by show oq C S _ T (un g (S.get C x)) (un g (S.get C y)) false=_;rw[hx,hy];simp only[oq,hm.mt,uZ,hh,FI];cases gI eq l k<;>rfl
theorem ahd [hm:vT C T kind (ev cX)][hk:ud eU kind eq](hx:un g (S.get C x)= .im (l.map (mw eU ev)):=by first|exact rfl|exact bU)(hy:un g (S.get C y)= .val (eU k):=by first|exact rfl|exact bU):bw C f call S g ⟨some d, .lookup T x y true,ty,pos,aZ,bx⟩=some ⟨[(d, .aY [.val (ev ((gI eq l k).getD cX)),B (gI eq l k).isSome])],[],[]⟩:=by show oq C S _ T (un g (S.get C x)) (un g (S.get C y)) true=_;rw[hx,hy];simp only[oq,hm.mt,uZ,FI];cases gI eq l k<;>rfl
theorem SG{z0:Value}[hm:vT C T kind z0][hk:ud eU kind eq][hv:Ie ev](hx:un g (S.get C x)= .mr id:=by first|exact rfl|exact bU)(hh:S.h id=some (some (l.map (mw eU ev))):=by exact rfl)(hy:un g (S.get C y)= .val (eU k):=by first|exact rfl|exact bU)(hz:un g (S.get C z)= .val (ev v):=by first|exact rfl|exact bU):bw C f call S g ⟨none, .mapUpdate T x y z,ty,pos,aZ,bx⟩=some ⟨[],[id],[(id,some ((qH eq l k v).map (mw eU ev)))]⟩:=by show qp C S _ T (un g (S.get C x)) (un g (S.get C y)) (un g (S.get C z))=_;rw[hx,hy,hz];simp[qp,hm.mt,hh,TH,hk.sc,hv.sc,put]
end
end Go.Ab
namespace Go.Ab
open Go
inductive fu(σ bY:Type)where|go(s:σ)|ret(t:bY)|ex(t:bY)
def fc{α σ bY:Type}(step:α→σ→Option (fu σ bY)):List α→σ→Option (fu σ bY)|[],s=>some (.go s)|y::ys,s=>(step y s).bind fun z=>match z with| .go s'=>fc step ys s'|z=>some z
def fu.on{σ bY ρ:Type}(xK:σ→Option ρ)(pV xJ:bY→Option ρ):fu σ bY→Option ρ| .go s=>xK s| .ret s=>pV s| .ex s=>xJ s
section
variable{C:aL}{f:FuncId}{call:gd}{S:ah}{Q:Exit×ah→Prop}{assign body:Code}{α σ bY ρ:Type}{r:ρ}{rep:σ→ah}{fO:bY→ah}{enc:α→List U}{cc:Operand}{ps:Array Tmp}{j:Nat}
def ET(o:Option (Bool×List Nat))(rep:σ→ah)(fO:bY→ah)(j:Nat)(z:fu σ bY)(x:Exit×ah):Prop:=match z with| .go s=>x.1= .normal∧dB o x.2=some (rep s)| .ret s=>x.1= .ret∧dB o x.2=some (fO s)| .ex s=>x.1= .exit j∧dB o x.2=some (fO s)
def H9(C:aL)(f:FuncId)(call:gd)(body:Code)(Q:Exit×ah→Prop)(x:Exit×ah):Prop:=x.1= .normal∧W C f call body x.2 Q
theorem yf{S:ah}(h:W C f call body S Q):H9 C f call body Q (.normal,S):=⟨rfl,h⟩
theorem ajK{step:α→σ→Option (fu σ bY)}{ys:List α}{fh:σ}{xK:σ→Option ρ}{pV xJ:bY→Option ρ}(rep:σ→ah)(fO:bY→ah)(j:Nat)(hF:(fc step ys fh).bind (fu.on xK pV xJ)=some r)(hg:AQ C (un true (S.get C cc))=some (ys.map enc))(h0:dB (yb C f assign body) S=some (rep fh))(R:α→σ→ah)(hR:∀y s,D5 (rep s) ps.toList (enc y)=some (R y s))(round:∀y s z,step y s=some z→W C f call assign (R y s) (H9 C f call body (ET (yb C f assign body) rep fO j z)))(au:∀s,xK s=some r→Q (.normal,rep s))(pr:∀s,pV s=some r→Q (.ret,fO s))(DU:∀s,xJ s=some r→Q (.exit j,fO s)):W C f call (.rangeFunc cc ps assign body) S Q:=by obtain⟨v,h1,h2⟩:=Option.bind_eq_some_iff.1 hF;have key:∀(ys:List α)(s:σ),fc step ys s=some v→∃x,qq (fun bJ=>(cy C f call jV assign bJ).bind fun x=>match x.1 with| .normal=>cy C f call jV body x.2|_=>none) (dB (yb C f assign body)) ps.toList (ys.map enc) (rep s)=some x∧Q x:=by{intro ys;induction ys with|nil=>(intro s h;simp only[fc,Ha]at h;subst h;exact⟨_,rfl,au s h2⟩)|cons y ys ih=>intro s h;simp only[fc,Option.bind_eq_some_iff]at h;obtain⟨z,hz,h⟩:=h;obtain⟨⟨e,bJ⟩,g1,rfl,⟨e2,c9⟩,g2,g3⟩:=round y s z hz;simp only[Hc,qq,hR,GE,g1,g2];cases z with|go s'=>(obtain⟨rfl,g3⟩:=g3;simp only at g3;simp only[g3,GE];exact ih s' h)|ret s'=>(obtain⟨rfl,g3⟩:=g3;simp only[Ha]at h;subst h;simp only at g3;simp only[g3,GE];exact⟨_,rfl,pr s' h2⟩)|ex s'=>obtain⟨rfl,g3⟩:=g3;simp only[Ha]at h;subst h;simp only at g3;simp only[g3,GE];exact⟨_,rfl,DU s' h2⟩};obtain⟨x,h3,h4⟩:=key ys fh h1;refine⟨x, ?_,h4⟩;simp only[cy,hg,GE,h0];exact h3
theorem yg{step:α→σ→Option (fu σ bY)}{ys:List α}{fh:σ}{xK:σ→Option ρ}{pV xJ:bY→Option ρ}(rep:σ→ah)(fO:bY→ah)(j:Nat)(hF:(fc step ys fh).bind (fu.on xK pV xJ)=some r)(hg:AQ C (un true (S.get C cc))=some (ys.map enc))(h0:dB (yb C f assign body) S=some (rep fh)){n:Nat}(hn:∀s,(rep s).n=n)(hl:∀y,ps.toList.length=(enc y).length)(hp:(ps.toList.all fun p=>Nat.blt p n)=true)(round:∀y s z,step y s=some z→W C f call assign ⟨(rep s).n,tG (rep s).t (ps.toList.zip (enc y)),(rep s).h⟩ (H9 C f call body (ET (yb C f assign body) rep fO j z)))(au:∀s,xK s=some r→Q (.normal,rep s))(pr:∀s,pV s=some r→Q (.ret,fO s))(DU:∀s,xJ s=some r→Q (.exit j,fO s)):W C f call (.rangeFunc cc ps assign body) S Q:=ajK rep fO j hF hg h0 (fun y s=>⟨(rep s).n,tG (rep s).t (ps.toList.zip (enc y)),(rep s).h⟩) (fun y s=>by unfold D5;rw[AC ⟨hl y,by rw[List.all_eq_true]at hp⊢;intro p Gq;rw[decide_eq_true_eq,hn];exact of_decide_eq_true (lq (hp p Gq))⟩]) round au pr DU
theorem p4{o:Option (Bool×List Nat)}{z:fu σ bY}{s:σ}{S:ah}(hF:some (fu.go s)=some z)(h:dB o S=some (rep s)):ET o rep fO j z (.normal,S):=by cases hF;exact⟨rfl,h⟩
theorem tJ{o:Option (Bool×List Nat)}{z:fu σ bY}{s:bY}{S:ah}(hF:some (fu.ret s)=some z)(h:dB o S=some (fO s)):ET o rep fO j z (.ret,S):=by cases hF;exact⟨rfl,h⟩
end
section
variable{C:aL}{f:FuncId}{call:gd}{c:Code}{Q:Exit×ah→Prop}{n:Nat}{t t2:Nat→U}{h:Id→Option (Option Rows)}{l:List Nat}{vs:List U}{zs:List (Nat×U)}
theorem AY(k:W C f call c ⟨n,t2,h⟩ Q)(hm:aJ n l vs=⟨n,t,h⟩:=by exact GK)(ht:tG t zs=t2:=by exact rfl):W C f call c ⟨(aJ n l vs).n,tG (aJ n l vs).t zs,(aJ n l vs).h⟩ Q:=by subst ht;rw[hm];exact k
theorem ajT{l:List (Nat×U)}{h:List (Id×Rows)}(k:W C f call c ⟨n,t2,jB h⟩ Q)(ht:tG (c8 (fun _=> .bB) l) zs=t2:=by exact rfl):W C f call c ⟨(dS n l h).n,tG (dS n l h).t zs,(dS n l h).h⟩ Q:=by subst ht;exact k
end
end Go.Ab
namespace Go.Ab
open Go
instance:iw jO:=⟨fun x=>by cases x<;>rfl⟩
instance:oa jO:=⟨fun x=>by cases x<;>rfl,fun x=>by cases x<;>rfl⟩
instance:yR jO jO:=⟨fun x=>by cases x<;>rfl⟩
theorem aid(o:Option Int):fA (iP o)=true:=by cases o<;>rfl
theorem aie(q:List (Option Int)):(q.map jO).all AD=true:=by induction q with|nil=>(rfl)|cons o q ih=>simp only[Hc,List.all_cons,ih,Bool.and_true,jO];cases o<;>rfl
theorem TC{P:Program}{T e:TypeId}{d:Nat}(hu:P.underlying T=some (.pointer e)):cS P (Op.equalIn (d+1) T (.pointer none) (.pointer none))=some true:=by unfold Op.equalIn;rw[gJ,nY hu];rfl
section
variable{C:aL}{f:FuncId}{call:gd}{S:ah}{g:Bool}{d:Nat}{ty:TypeId}{pos:String}{aZ:Array Edge}{bx:Option (Nat×Bool)}
theorem u9{cN x:Operand}{ts:Array TypeId}{dx:FuncId}{cells:List U}{id fX:Id}{n:Nat}{i c:Int}{kids:List Int}{q:List (Option Int)}{el:Option Int}(h1:idx kids i=some c)(h2:idx q c=some el)(hfo:un g (S.get C cN)= .fn (.func dx) [] [.mp id 0 0, .aA cells]:=by exact rfl)(hx:un g (S.get C x)= .val (.int .i64 i):=by first|exact rfl|exact yG|exact bU)(hlk:C.look dx=true:=by exact rfl)(JQ:cells[4]? =some (.sl (kids.map fun k=>[.val (.int .i64 k)])):=by exact rfl)(hid:S.h id=some (some [[.rs fX 0 n]]):=by exact rfl)(xg:S.h fX=some (some (q.map jO)):=by exact rfl)(hn:n=q.length:=by exact qG)(ht:yy C cN=false:=by exact rfl)(mX:pathOf C cN=none:=by exact rfl)(dZ:C.gW dx=false:=by exact rfl):bw C f call S g ⟨some d, .call ⟨.value cN, #[x],ts⟩,ty,pos,aZ,bx⟩=some ⟨[(d,iP el)],[id,fX],[]⟩:=by rw[Fz (FY hfo dZ)];rw[mX];simp only;rw[ht];simp only[Hm,if_false];rw[hfo];have a1:0≤i∧kids[i.toNat]? =some c:=by{unfold idx at h1;split at h1;·{exact⟨by assumption,h1⟩};·cases h1};have a2:0≤c∧q[c.toNat]? =some el:=by{unfold idx at h2;split at h2;·{exact⟨by assumption,h2⟩};·cases h2};have b1:(kids.map fun k=>[U.val (.int .i64 k)])[i.toNat]? =some [.val (.int .i64 c)]:=by{rw[H0,a1.2];rfl};have b2:(q.map jO)[c.toNat]? =some [iP el]:=by{rw[H0,a2.2];rfl};simp only[qj,hlk,if_true,Hc,List.map_nil,hx,List.nil_append,List.cons_append,uY,JQ,hid,xg,b1,b2];rw[AC ⟨a1.1,a2.1,by rw[hn,List.length_map],aie q,aid el,rfl⟩];rfl
theorem tD{x:Operand}{e:Option Int}{n:Int}(he:e=some n)(hx:un g (S.get C x)=iP e:=by first|exact rfl|exact yG|exact bU):bw C f call S g ⟨some d, .nilCheck x,ty,pos,aZ,bx⟩=some ⟨[(d, .aA [I n])],[],[]⟩:=by show zB _ (un g (S.get C x))=_;rw[hx,he];rfl
theorem Ll{x:Operand}{T aQ:TypeId}{el:TypeId}{e:Option Int}[hu:c7 C T (.pointer el)](hx:un g (S.get C x)=iP e:=by first|exact rfl|exact yG|exact bU):bw C f call S g ⟨some d, .binOp .eql T x (.const (.pointer none)) aQ,ty,pos,aZ,bx⟩=some ⟨[(d,B e.isNone)],[],[]⟩:=by show mP C _ .eql T x (.const (.pointer none)) (un g (S.get C x)) (.val (.pointer none))=_;rw[hx];cases e with|none=>(have hb:eD C.P .eql T x (.const (.pointer none)) (.pointer none) (.pointer none)=some (.bool true):=by{show cS C.P (do let b←Op.equalIn (9999+1) T (.pointer none) (.pointer none);pure (Value.bool b))=_;rw[gJ,TC hu.ul];rfl};simp only[mP,iP,lX,hb,kK,eC,ret,put];rfl)|some n=>simp only[mP,iP,lX,hu.ul,Hj];rfl
theorem ahf{x:Operand}{T aQ:TypeId}{el:TypeId}{e:Option Int}[hu:c7 C T (.pointer el)](hx:un g (S.get C x)=iP e:=by first|exact rfl|exact yG|exact bU):bw C f call S g ⟨some d, .binOp .neq T x (.const (.pointer none)) aQ,ty,pos,aZ,bx⟩=some ⟨[(d,B e.isSome)],[],[]⟩:=by show mP C _ .neq T x (.const (.pointer none)) (un g (S.get C x)) (.val (.pointer none))=_;rw[hx];cases e with|none=>(have hb:eD C.P .neq T x (.const (.pointer none)) (.pointer none) (.pointer none)=some (.bool false):=by{show cS C.P (do let b←Op.equalIn (9999+1) T (.pointer none) (.pointer none);pure (Value.bool (!b)))=_;rw[gJ,TC hu.ul];rfl};simp only[mP,iP,lX,hb,kK,eC,ret,put];rfl)|some n=>simp only[mP,iP,lX,hu.ul,Hj];rfl
end
end Go.Ab
namespace Go.Ab
open Go
section
variable{n:Nat}{t:Nat→U}{h L:Id→Option (Option Rows)}
/-! ### Opened, frozen -/
theorem aN{p s row off:Nat}{id:Id}{r r':List U}{x:Id×Option Rows}{wr:List (Id×Option Rows)}(hs:t s= .mp id row off:=by exact rfl)(hid:h id=some (some [r]):=by exact rfl)(hu:bT [p,s] 0 r=(r',x::wr):=by exact tS)(Kt:Nat.blt s n=true:=by exact rfl)(hf:fresh h (x::wr)=true:=by exact rfl):qO p ⟨n,t,h⟩ s=some ⟨n,t,bu h ((id,some [r'])::x::wr)⟩:=aic hs hid hu Kt hf
theorem S4{p s row off:Nat}{id:Id}{r r':List U}(hs:t s= .mp id row off:=by exact rfl)(hid:h id=some (some [r]):=by exact rfl)(hu:bT [p,s] 0 r=(r',[]):=by exact tS):qO p ⟨n,t,h⟩ s=some ⟨n,t,h⟩:=by unfold qO;simp only[hs,hid,hu,List.isEmpty_nil,if_true]
def afD:U→Bool| .rs _ _ _| .cz| .mr _=>true|_=>false
theorem Ck{s:Nat}{v v':U}{ids:List Id}{wr:List (Id×Option Rows)}(hl:afD (t s)=true:=by exact rfl)(hp:pk h 9 (t s)=some (v,ids):=by exact mE)(hf:dF v=v':=by exact Cj)(hn:dV ids=true:=by exact rfl)(hw:(ids.map fun i=>(i,none))=wr:=by exact spine):mb ⟨n,t,h⟩ s=some ⟨n,an t s v',bu h wr⟩:=by have e:ow ⟨n,t,h⟩ s=some ⟨n,an t s v',bu h wr⟩:=by{subst hf hw;simp only[ow,hp,hn,if_true]};rw[←e];cases hts:t s<;>rw[hts]at hl<;>first|(unfold mb;simp only[hts];done)|cases hl
theorem acp{s:Nat}(hl:t s= .cz:=by exact rfl):mb ⟨n,t,h⟩ s=some ⟨n,an t s (.sl []),h⟩:=by simp only[mb,hl,ow,pk,dV,if_true];rfl
/-! ### Names of what arguments lead to -/
def RV:U→Bool| .fn _ as cs=> !(as.isEmpty&&cs.isEmpty)| .rs _ _ _=>true| .mp _ _ _=>true| .mr _=>true| .agg _=>true|_=>false
variable{m j:Nat}{b:Bool}{p i:Id}{acc acc' od y l:List (Id×Id)}{a:U}{as cs eo:List U}
theorem OS(hx:eo=[])(e:acc=y):ef L m b p j acc eo=y:=by subst hx;cases m<;>exact e
theorem ZS(hx:eo=a::as)(hs:RV a=false)(k:ef L m b p (j+1) acc as=y):ef L (m+1) b p j acc eo=y:=by subst hx;cases a with|fn f xs cs=>(simp only[RV,Bool.not_eq_false',Hn,List.isEmpty_iff]at hs;obtain⟨rfl,rfl⟩:=hs;have e:ef L m true (j::p) 0 acc ([]++[])=acc:=by{cases m<;>rfl};simp only[ef,e];exact k)|_=>first|exact k|cases hs
theorem ZQ{o q:Nat}(hx:eo= .rs i o q::as)(hn:(!b||(ga acc i).isSome)=false)(hl:acc++[(i,j::p)]=acc')(k:ef L m b p (j+1) acc' as=y):ef L (m+1) b p j acc eo=y:=by subst hx hl;simp only[ef,hn];exact k
theorem ZR{o q:Nat}(hx:eo= .rs i o q::as)(hn:(!b||(ga acc i).isSome)=true)(k:ef L m b p (j+1) acc as=y):ef L (m+1) b p j acc eo=y:=by subst hx;simp only[ef,hn];exact k
theorem ZO{o q:Nat}(hx:eo= .mp i o q::as)(hn:(ga acc i).isSome=false)(hh:L i=some (some [cs]))(hl:acc++[(i,j::p)]=acc')(h1:ef L m false (j::p) 0 acc' cs=od)(k:ef L m b p (j+1) od as=y):ef L (m+1) b p j acc eo=y:=by subst hx hl h1;simp only[ef,hn,hh];exact k
theorem ZP{o q:Nat}(hx:eo= .mp i o q::as)(hn:(ga acc i).isSome=true)(k:ef L m b p (j+1) acc as=y):ef L (m+1) b p j acc eo=y:=by subst hx;simp only[ef,hn];exact k
theorem ZM(hx:eo= .agg cs::as)(h1:ef L m b (j::p) 0 acc cs=od)(k:ef L m b p (j+1) od as=y):ef L (m+1) b p j acc eo=y:=by subst hx h1;simp only[ef];exact k
theorem ZN{f:Fn}{xs:List U}(hx:eo= .fn f xs cs::as)(h1:ef L m true (j::p) 0 acc (xs++cs)=od)(k:ef L m b p (j+1) od as=y):ef L (m+1) b p j acc eo=y:=by subst hx h1;simp only[ef];exact k
theorem OT(k:ef L m b p j acc eo=y:=by(repeat'(first|((with_reducible apply OS);(with_reducible exact rfl);exact rfl)|((with_reducible apply ZS);exact rfl;first|exact rfl|exact anD|exact anE)|((with_reducible apply ZQ);exact rfl;exact rfl;exact spine)|((with_reducible apply ZR);exact rfl;exact rfl)|((with_reducible apply alK);exact rfl;exact rfl;exact spine)|((with_reducible apply alL);exact rfl;exact rfl)|((with_reducible apply ZP);exact rfl;exact rfl)|((with_reducible apply ZO);exact rfl;exact rfl;exact rfl;exact spine)|((with_reducible apply ZM);exact rfl)|((with_reducible apply ZN);exact rfl)|(apply OS;exact rfl;exact rfl)));first|done|fail):ef L m b p j acc eo=y:=k
/-! ### The objects that go -/
variable{o k:Id}{r l':List (Id×Id)}{rows x1 br:Rows}{i1 i2 gone ids:List Id}{obs outs:List U}{keep:Id→Bool}{back:List (Id×Option Rows)}
theorem aax(hf:ei rows=true):nE L keep rows=some (rows,[]):=by simp only[nE,hf,if_true]
theorem aay(hf:ei rows=false)(hc:dr (lA L keep) rows=some (br,ids)):nE L keep rows=some (br,ids):=by simp[nE,hf,hc]
theorem O6{y:Option (Rows×List Id)}(k:nE L keep rows=y:=by(repeat'(first|(apply aax;first|exact ov _|exact rfl|exact Jd)|(apply alQ;exact rfl;exact rfl;(first|(with_reducible assumption)|assumption);exact inferInstance;rotate_left;exact rfl)|(apply aay;exact rfl)|exact P5|(apply P6;exact rfl)|exact aaw|(apply O5;exact rfl)|exact IM|exact IN|exact ON|exact IP|(apply OP;exact rfl;exact rfl;exact mE)|(apply IQ;exact rfl;exact rfl;exact mE)|(apply OO;exact rfl;exact rfl;exact mE)|(apply BT;first|exact rfl|exact PU|exact PX|exact PV)|exact OM|exact wS|(apply zE;exact rfl)));first|done|fail):nE L keep rows=y:=k
theorem aht:iO L l []=some ([],[]):=rfl
theorem ahs(h:L o=some (some rows))(hc:nE L (tr l) rows=some (x1,i1))(hr:mG l x1=some br)(hy:iO L l r=some (obs,gone)):iO L l ((o,k)::r)=some (.bt k br::obs,i1++gone):=by simp[iO,h,hc,hr,hy]
theorem SO{y:Option (List U×List Id)}(k:iO L l r=y:=by(repeat'(first|exact aht|(apply ahs;exact rfl;exact O6;(first|exact Mj|exact Mk|exact Ml))));first|done|fail):iO L l r=y:=k
theorem YW:iX l' [] []=some []:=rfl
theorem YU(hr:mG l' rows=some br)(hy:iX l' r outs=some back):iX l' ((o,k)::r) (.bt k rows::outs)=some ((o,some br)::back):=by simp[iX,hr,hy]
theorem YV(hy:iX l' r outs=some back):iX l' ((o,k)::r) (.bB::outs)=some ((o,none)::back):=by simp[iX,hy]
theorem ZV:kf L []=[]:=rfl
theorem ZU{x:Id×Option Rows}{gT:List (Id×Option Rows)}(hs:sg L x=true)(k:kf L gT=back):kf L (x::gT)=back:=by unfold kf at*;rw[H1 (by simp[hs])];exact k
theorem ZT{x:Id×Option Rows}{gT:List (Id×Option Rows)}(hs:sg L x=false)(k:kf L gT=back):kf L (x::gT)=x::back:=by unfold kf at*;rw[H2 (by simp[hs]),k]
theorem aki{α:Type}{c:α→List U}[hc:iw c]{q:List α}:sg L (o,some (q.map c))=false:=by cases h:sg L (o,some (q.map c))with|false=>(rfl)|true=>exfalso;unfold sg at h;split at h;·{rename_i h1 h2;simp only[Ha]at h2;have:ei (q.map c)=true:=ov q;rw[h2]at this;simp[ei,cY,flat]at this};·cases h
theorem OV{gT:List (Id×Option Rows)}{y:List (Id×Option Rows)}(k:kf L gT=y:=by(repeat'(first|exact ZV|(apply ZU;exact rfl)|(apply ZT;first|exact aki|exact rfl)));first|done|fail):kf L gT=y:=k
theorem Oq{y:Option (List (Id×Option Rows))}(k:iX l' r outs=y:=by(repeat'(first|exact YW|(apply YU;(first|exact Mj|exact Mk|exact Ml))|apply YV));first|done|fail):iX l' r outs=y:=k
/-! Values under other names -/
theorem ajU(hf:flat a=true):fo l a=a:=by cases a with|agg cs=>(simp only[flat]at hf;simp[fo,D2 hf])|aY cs=>(simp only[flat]at hf;simp[fo,D2 hf])|fn f as cs=>(simp only[flat,Hn]at hf;simp[fo,D2 hf.1,D2 hf.2])|rs _ _ _=>(simp[flat]at hf)|mp _ _ _=>(simp[flat]at hf)|mr _=>(simp[flat]at hf)|dw _ _=>(simp[flat]at hf)|cz=>(simp[flat]at hf)|_=>simp only[fo,qR,yd];rw[AC hf]
theorem abr(hf:cY cs=true):flat (.agg cs)=true:=hf
theorem abB(hf:cY cs=true):flat (.aY cs)=true:=hf
theorem abu{α:Type}{c:α→List U}{x:α}[hc:iw c]:cY (c x)=true:=hc.fl x
theorem Jg{a:U}(k:flat a=true:=by(repeat'(first|exact rfl|exact abt|exact abx|exact PW|(with_reducible apply abr)|(with_reducible apply abB)|exact abu|exact abw|(apply PT;exact rfl)));first|done|fail):flat a=true:=k
theorem Mr{a':U}(k:fo l a=a':=by first|(refine ajU ?_;exact Jg)|exact rfl):fo l a=a':=k
theorem ajI(hx:eo=[]:=by exact rfl):eo.map (fo l)=[]:=by subst hx;rfl
theorem ajH{a':U}{bs:List U}(hx:eo=a::as)(h:fo l a=a')(k:as.map (fo l)=bs):eo.map (fo l)=a'::bs:=by subst hx h k;rfl
theorem Uq{bs:List U}(k:eo.map (fo l)=bs:=by(repeat'(first|exact ajI|(apply ajH;exact rfl;exact Mr)));first|done|fail):eo.map (fo l)=bs:=k
end
section
variable{C:aL}{f:FuncId}{call:gd}{S:ah}{g:Bool}{d:Nat}{ty:TypeId}{pos:String}{aZ:Array Edge}{bx:Option (Nat×Bool)}
variable{cN:Operand}{ts:Array TypeId}{dx:FuncId}{as bs args AR obs outs DC aod:List U}{l:List (Id×Id)}{gone:List Id}{r v v':U}{back Fb j5 wr:List (Id×Option Rows)}{xs:Array Operand}
theorem abg{d':Option Tmp}(hfo:un g (S.get C cN)= .fn (.func dx) as bs)(dZ:C.gW dx=true):bw C f call S g ⟨d', .call ⟨.value cN,xs,ts⟩,ty,pos,aZ,bx⟩=qk C f call S ⟨d', .call ⟨.value cN,xs,ts⟩,ty,pos,aZ,bx⟩ dx (as++(xs.toList.map fun x=>un g (S.get C x))++bs):=by show(match nK C (un g (S.get C cN))with|some x=>qk C f call S _ x.1 (x.2.1++(xs.toList.map fun x=>un g (S.get C x))++x.2.2)|none=>_)=_;have:nK C (un g (S.get C cN))=some (dx,as,bs):=by{rw[hfo];simp[nK,dZ]};rw[this]
theorem OJ(hc:call dx (.aY obs::AR)=some (r,outs))(hfo:un g (S.get C cN)= .fn (.func dx) as bs)(dZ:C.gW dx=true)(ha:as++(xs.toList.map fun x=>un g (S.get C x))++bs=args)(hl:ef S.h 60 true [iL] 0 [] args=l)(ho:iO S.h l l=some (obs,gone))(CR:args.map (fo l)=AR)(s3:(dV (l.map (·.1))&&dV (l.map (·.2))&&(l.all fun x=>jU x.2)&&dV gone&&sN gone (l.map (·.1)))=true)(hb:iX (l.map fun x=>(x.2,x.1)) l outs=some back)(hp:Am r=false)(hv:fo (l.map fun x=>(x.2,x.1)) (if eL C f (some d)then(if flat r then dF r else .bB)else r)=v)(hi:imp [d] v=(v',j5))(hf:fresh S.h j5=true)(hw:j5++(kf S.h back++gone.map fun i=>(i,none))=wr):bw C f call S g ⟨some d, .call ⟨.value cN,xs,ts⟩,ty,pos,aZ,bx⟩=some ⟨[(d,v')],l.map (·.1),wr⟩:=by rw[abg hfo dZ,ha];subst hw;have e:rM call S.h dx args=some ⟨r,l,back,gone⟩:=by{unfold rM Cl;rw[hl,ho];simp only[s3,if_true,CR,hc,hb,Hb]};unfold qk;rw[e];simp only[GE,hp,Hm,if_false,iY,hv,hi,hf,if_true];rfl
theorem dJ(hc:call dx (.aY obs::AR)=some (r,outs)){rd:List Id}(hfo:un g (S.get C cN)= .fn (.func dx) as bs:=by exact rfl)(dZ:C.gW dx=true:=by exact rfl)(ha:as++(xs.toList.map fun x=>un g (S.get C x))++bs=args:=by exact spine)(hl:ef S.h 60 true [iL] 0 [] args=l:=by exact OT)(ho:iO S.h l l=some (DC,gone):=by exact SO)(xp:DC=obs:=by exact rfl)(CR:args.map (fo l)=AR:=by exact Uq)(s3:(dV (l.map (·.1))&&dV (l.map (·.2))&&(l.all fun x=>jU x.2)&&dV gone&&sN gone (l.map (·.1)))=true:=by exact rfl)(hb:iX (l.map fun x=>(x.2,x.1)) l outs=some back:=by exact Oq)(hp:Am r=false:=by exact rfl)(hz:(C.eF f).contains d=false:=by exact rfl)(hv:fo (l.map fun x=>(x.2,x.1)) r=v:=by exact Mr)(hi:imp [d] v=(v',j5):=by exact xD)(hf:fresh S.h j5=true:=by exact rfl)(jz:kf S.h back=Fb:=by exact OV)(hw:j5++(Fb++gone.map fun i=>(i,none))=wr:=by exact spine)(hrd:l.map (·.1)=rd:=by exact spine):bw C f call S g ⟨some d, .call ⟨.value cN,xs,ts⟩,ty,pos,aZ,bx⟩=some ⟨[(d,v')],rd,wr⟩:=by subst hrd xp;exact OJ hc hfo dZ ha hl ho CR s3 hb hp (by simp only[eL,hz,Hm,if_false];exact hv) hi hf (by rw[jz];exact hw)
theorem bh(hc:call dx (.aY obs::AR)=some (r,outs)){rd:List Id}{v0:U}(hfo:un g (S.get C cN)= .fn (.func dx) as bs:=by exact rfl)(dZ:C.gW dx=true:=by exact rfl)(ha:as++(xs.toList.map fun x=>un g (S.get C x))++bs=args:=by exact spine)(hl:ef S.h 60 true [iL] 0 [] args=l:=by exact OT)(ho:iO S.h l l=some (DC,gone):=by exact SO)(xp:DC=obs:=by exact rfl)(CR:args.map (fo l)=AR:=by exact Uq)(s3:(dV (l.map (·.1))&&dV (l.map (·.2))&&(l.all fun x=>jU x.2)&&dV gone&&sN gone (l.map (·.1)))=true:=by exact rfl)(hb:iX (l.map fun x=>(x.2,x.1)) l outs=some back:=by exact Oq)(hp:Am r=false:=by exact rfl)(hz:(C.eF f).contains d=true:=by exact rfl)(hfl:flat r=true:=by exact Jg)(hfz:dF r=v0:=by exact Cj)(hv:fo (l.map fun x=>(x.2,x.1)) v0=v:=by exact Mr)(hi:imp [d] v=(v',j5):=by exact xD)(hf:fresh S.h j5=true:=by exact rfl)(jz:kf S.h back=Fb:=by exact OV)(hw:j5++(Fb++gone.map fun i=>(i,none))=wr:=by exact spine)(hrd:l.map (·.1)=rd:=by exact spine):bw C f call S g ⟨some d, .call ⟨.value cN,xs,ts⟩,ty,pos,aZ,bx⟩=some ⟨[(d,v')],rd,wr⟩:=by subst hrd xp;exact OJ hc hfo dZ ha hl ho CR s3 hb hp (by simp only[eL,hz,if_true,hfl,hfz];exact hv) hi hf (by rw[jz];exact hw)
end
/-! ### Functions -/
def vH:Nat→List U→List (Nat×U)|_,[]=>[]|i,p::ps=>(i,p)::vH (i+1) ps
theorem Nf:∀(ps:List U)(i t:Nat),c8 (fun _=> .bB) (vH i ps) t=if t<i then .bB else ps.getD (t-i) .bB|[],i,t=>by{simp[vH,c8]}|p::ps,i,t=>by simp only[vH,c8,an];by_cases e:t=i;·{subst e;simp};·rw[Do e,Nf ps (i+1) t];by_cases h1:t<i;·{rw[AC h1,AC (by omega)]};·rw[Do h1,Do (by omega),show t-i=(t-(i+1))+1 by omega];rfl
def yO(C:aL)(f:FuncId)(rv:List ResultVar)(ks:List Id)(r:U)(outs:List U)(x:Exit×ah):Prop:=(x.1= .ret∨x.1= .normal)∧∃S al vs i1 i2,oH (C.rE f) x.2=S∧(ks.filter fun k=>mo (S.h k))=al∧lV C S (mO S.h fun i=>al.contains i) rv=some (vs,i1)∧k8 S.h (fun i=>al.contains i) ks=some (outs,i2)∧dV (al++(i1++i2))=true∧vg vs=r
section
variable{C:aL}{f:FuncId}{S:ah}{rv:List ResultVar}{ks al:List Id}{vs outs outs' cs cs':List U}{ids is i1 i2:List Id}{r v v' x:U}{p:U→Option (U×List Id)}{L:Id→Option (Option Rows)}{keep:Id→Bool}{rows br:Rows}{k:Id}{T:TypeId}
theorem ajN:lV C S p []=some ([],[]):=rfl
theorem ajP{t:Nat}(h:p (un true (S.t t))=some (v,ids))(hr:lV C S p rv=some (vs,is)):lV C S p (.tmp t::rv)=some (v::vs,ids++is):=by show(vo C S p (.tmp t)).bind _=_;simp only[vo,h,GE,hr,Hb]
theorem ajO{a m:Nat}{id:Id}{bb:Bool}{r:List U}[ha:cM C T bb m](hx:un true (S.t a)= .mp id 0 0)(hh:S.h id=some (some [r]))(hl:Hd m r.length=true)(hv:jd bb (r.take m)=some v)(h:p v=some (v',ids))(hr:lV C S p rv=some (vs,is)):lV C S p (.cell a T::rv)=some (v'::vs,id::ids++is):=by show(vo C S p (.cell a T)).bind _=_;have hl':0+m≤r.length:=by{have:=Hk hl;omega};simp only[vo,ha.jN,ha.sz,hx,hh,List.getElem?_cons_zero,AC hl',List.drop_zero,hv,GE,h,hr,Hb]
theorem OW:∀{cs:List U},cY cs=true→dQ (gU L keep) cs=some (cs,[])|[],_=>rfl|c::cs,h=>by simp only[cY,Hn]at h;simp only[dQ,BT h.1,GE,OW h.2,Hb];rfl
theorem aaG(hf:flat x=true):mO L keep x=some (x,[]):=by cases x with|agg cs=>(simp only[flat]at hf;simp only[mO,OW hf,Hb])|_=>exact BT (h:=L) (keep:=keep) hf
theorem aaE(hx:x= .agg cs:=by exact rfl)(h:dQ (gU L keep) cs=some (cs',ids)):mO L keep x=some (.agg cs',ids):=by subst hx;simp only[mO,h,Hb]
def isAgg:U→Bool| .agg _=>true|_=>false
theorem aaK(hx:isAgg x=false)(h:gU L keep x=some (v,ids)):mO L keep x=some (v,ids):=by cases x<;>first|exact h|cases hx
theorem I0{y:Option (U×List Id)}(k:mO L keep x=y:=by(repeat'(first|(refine aaG ?_;exact Jg)|(apply aaE;exact rfl)|(apply aaK;exact rfl)|exact IM|exact IN|exact ON|exact IP|(apply OP;exact rfl;exact rfl;exact mE)|(apply IQ;exact rfl;exact rfl;exact mE)|(apply OO;exact rfl;exact rfl;exact mE)|(apply BT;first|exact rfl|exact PU|exact PX|exact PV)|exact OM|exact wS|(apply zE;exact rfl)));first|done|fail):mO L keep x=y:=k
theorem Ud{y:Option (List U×List Id)}(h:lV C S (mO L keep) rv=y:=by repeat'(first|with_reducible exact ajN|((with_reducible apply ajP);exact I0)|((with_reducible apply ajO);exact rfl;exact rfl;exact rfl;(first|exact GI|exact GJ rfl);exact I0)|((with_reducible apply aon);exact rfl;exact rfl;(first|exact GI|exact GJ rfl);exact I0))):lV C S (mO L keep) rv=y:=h
theorem ahm:k8 L keep []=some ([],[]):=rfl
theorem ahk(h:L k=some (some rows))(hc:nE L keep rows=some (br,i1))(hy:k8 L keep ks=some (outs,i2)):k8 L keep (k::ks)=some (.bt k br::outs,i1++i2):=by simp[k8,h,hc,hy]
theorem ahl(h:mo (L k)=false)(hy:k8 L keep ks=some (outs,i2)):k8 L keep (k::ks)=some (.bB::outs,i2):=by unfold k8;split;·{rename_i rows e;rw[e]at h;cases h};·rw[hy];rfl
theorem SN{y:Option (List U×List Id)}(h:k8 L keep ks=y:=by(repeat'(first|exact ahm|(apply ahk;exact rfl;exact O6)|(apply ahl;exact rfl)));first|done|fail):k8 L keep ks=y:=h
theorem abv{p:Id→Bool}:GT p []=([]:List Id):=rfl
theorem abA{p:Id→Bool}{k:Id}{ks al:List Id}(h:p k=true)(hy:GT p ks=al):GT p (k::ks)=k::al:=by rw[H2 h,hy]
theorem abC{p:Id→Bool}{k:Id}{ks al:List Id}(h:p k=false)(hy:GT p ks=al):GT p (k::ks)=al:=by rw[H1 (by simp[h]),hy]
theorem P3{p:Id→Bool}{y:List Id}(h:GT p ks=y:=by(repeat'(first|exact abv|(apply abA;exact rfl)|(apply abC;exact rfl)));first|done|fail):GT p ks=y:=h
theorem afX{S:ah}{l:List Id}(hl:l=[]:=by exact rfl):oH l S=S:=by subst hl;rfl
theorem afY{n:Nat}{t:Nat→U}{h:Id→Option (Option Rows)}{l l2:List Id}(hl:l=l2:=by exact spine):oH l ⟨n,t,h⟩=⟨n,t,bu h (l2.map fun i=>(i,none))⟩:=by subst hl;rfl
theorem RN{S S':ah}{l:List Id}(k:oH l S=S':=by first|exact afX|exact afY):oH l S=S':=k
theorem dy{fU:ah}(hk:oH (C.rE f) fU=S:=by exact RN)(ha:(ks.filter fun k=>mo (S.h k))=al:=by exact P3)(h:lV C S (mO S.h fun i=>al.contains i) rv=some (vs,i1):=by exact Ud)(ho:k8 S.h (fun i=>al.contains i) ks=some (outs',i2):=by exact SN)(xp:outs'=outs:=by exact rfl)(hn:dV (al++(i1++i2))=true:=by exact rfl)(hr:vg vs=r:=by exact rfl):yO C f rv ks r outs (.ret,fU):=by subst xp;exact⟨.inl rfl,S,al,vs,i1,i2,hk,ha,h,ho,hn,hr⟩
theorem Jq{fU:ah}(hk:oH (C.rE f) fU=S:=by exact RN)(ha:(ks.filter fun k=>mo (S.h k))=al:=by exact P3)(h:lV C S (mO S.h fun i=>al.contains i) rv=some (vs,i1):=by exact Ud)(ho:k8 S.h (fun i=>al.contains i) ks=some (outs',i2):=by exact SN)(xp:outs'=outs:=by exact rfl)(hn:dV (al++(i1++i2))=true:=by exact rfl)(hr:vg vs=r:=by exact rfl):yO C f rv ks r outs (.normal,fU):=by subst xp;exact⟨.inr rfl,S,al,vs,i1,i2,hk,ha,h,ho,hn,hr⟩
theorem fF{fn:Func}{c:Code}{obs args:List U}{hl:List (Id×Rows)}{zs:List (Nat×U)}{nn N:Nat}(hf:C.P.funcs[f]? =some fn)(hn:fn.ntmps=N)(hr:fn.results.toList=rv)(k:nu iL (C.jh f iL) [] (fun fU=>W C f (den C nn) c fU (yO C f rv ks r outs)) ⟨N,c8 (fun _=> .bB) zs,jB hl⟩)(hb:fn.body=some c:=by exact rfl)(he:C.ext f=none:=by exact rfl)(dZ:C.gW f=true:=by exact rfl)(hl':Hd args.length N=true:=by exact rfl)(hN:Hd N iL=true:=by exact rfl)(ho:va obs=some hl:=by exact rfl)(hz:vH 0 args=zs:=by exact spine)(hk:hl.map (·.1)=ks:=by exact spine)(hdf:pz C f c=false:=by exact rfl):den C (nn+1) f (.aY obs::args)=some (r,outs):=by obtain⟨fU,h0,bJ,h1,⟨e,s⟩,h2,h3,Xd,al,vs,i1,i2,CG,h4,h5,h6,h7,h8⟩:=k;simp only[kV,Ha]at h1;subst h1;subst hr hn hz hk;show rF C (den C nn) jV f _=_;unfold rF;simp only[he,hf,hb,dZ,if_true];unfold B9;simp only[ho];rw[AC ⟨Hk hl',Hk hN⟩,hdf];simp only[Hm,if_false];have e0:yw fn.ntmps args hl=⟨fn.ntmps,c8 (fun _=> .bB) (vH 0 args),jB hl⟩:=by{unfold yw;congr 1;funext t;rw[Nf];simp};rw[e0,h0];simp only[GE,h2];have cV:sW C fn (hl.map (·.1)) (oH (C.rE f) s)=some (r,outs):=by{simp only at CG;rw[CG];unfold sW;simp only[h4,h5,h6,h7,if_true];rw[←h8];congr 2;cases vs with|nil=>(rfl)|cons a l=>cases l<;>rfl};rcases h3 with h3|h3;·{simp only at h3;subst h3;exact cV};·simp only at h3;subst h3;exact cV
end
end Go.Ab
namespace Go.Ab
open Go
section
variable{C:aL}{f:FuncId}{call:gd}{S:ah}{A b c:Code}{o0 o1:Oper}{d:Nat}{Q:Exit×ah→Prop}
def ER(C:aL)(f:FuncId)(call:gd)(o0 o1:Oper)(d:Nat)(b:Code)(Q:Exit×ah→Prop)(x:Exit×ah):Prop:=match x.1 with| .normal=>dP C f call #[o0,o1] 0 [o0] [] x.2 fun _ bJ=>∃k xs cs,bJ.t d= .fn (.func k) xs cs∧C.nS k=true∧W C f call b bJ Q|_=>Q x
theorem ajg(h:dP C f call #[o0,o1] 0 [o0] [] S fun _ bJ=>∃k xs cs,bJ.t d= .fn (.func k) xs cs∧C.nS k=true∧W C f call b bJ Q):ER C f call o0 o1 d b Q (.normal,S):=h
theorem ajh(h:Q (.ret,S)):ER C f call o0 o1 d b Q (.ret,S):=h
theorem agN{ks:List iU}{i:Nat}{ops:Array Oper}{k:FuncId}{xs cs:List U}(h:W C f call b S Q)(hd:S.t d= .fn (.func k) xs cs:=by exact rfl)(hk:C.nS k=true:=by exact rfl):dP C f call ops i [] ks S fun _ bJ=>∃k xs cs,bJ.t d= .fn (.func k) xs cs∧C.nS k=true∧W C f call b bJ Q:=nl ⟨k,xs,cs,hd,hk,h⟩
theorem aaW(k:W C f call A S (ER C f call o0 o1 d b Q))(hs:tM C f c=some (A,o0,o1,d,b))(hb:pz C f b=false):∃x,jw C f call jV c S=some x∧Q x:=by obtain⟨⟨x,bJ⟩,h1,h2⟩:=k;rw[abl c hs,h1];simp only[GE];cases x with|normal=>(obtain⟨⟨c9,ks⟩,h3,k,xs,cs,h4,h5,y,h6,h7⟩:=h2;refine⟨y, ?_,h7⟩;simp only[FB,h3,GE];simp only at h4;rw[h4];simp only[h5,if_true];rw[abk b hb];exact h6)|_=>exact⟨_,rfl,h2⟩
theorem abJ{rv:List ResultVar}{ks:List Id}{r:U}{outs:List U}{fn:Func}{obs args:List U}{hl:List (Id×Rows)}{zs:List (Nat×U)}{nn N:Nat}(hf:C.P.funcs[f]? =some fn)(hn:fn.ntmps=N)(hr:fn.results.toList=rv)(k:nu iL (C.jh f iL) [] (fun fU=>W C f (den C nn) A fU (ER C f (den C nn) o0 o1 d b (yO C f rv ks r outs))) ⟨N,c8 (fun _=> .bB) zs,jB hl⟩)(hb:fn.body=some c:=by exact rfl)(he:C.ext f=none:=by exact rfl)(dZ:C.gW f=true:=by exact rfl)(hl':Hd args.length N=true:=by exact rfl)(hN:Hd N iL=true:=by exact rfl)(ho:va obs=some hl:=by exact rfl)(hz:vH 0 args=zs:=by exact spine)(hk:hl.map (·.1)=ks:=by exact spine)(hs:tM C f c=some (A,o0,o1,d,b):=by exact rfl)(hdf:pz C f c=true:=by exact rfl)(hdb:pz C f b=false:=by exact rfl):den C (nn+1) f (.aY obs::args)=some (r,outs):=by obtain⟨fU,h0,bJ,h1,h2⟩:=k;simp only[kV,Ha]at h1;subst h1;obtain⟨⟨e,s⟩,acU,h3,Xd,al,vs,i1,i2,CG,h4,h5,h6,h7,h8⟩:=aaW h2 hs hdb;subst hr hn hz hk;show rF C (den C nn) jV f _=_;unfold rF;simp only[he,hf,hb,dZ,if_true];unfold B9;simp only[ho];rw[AC ⟨Hk hl',Hk hN⟩,hdf];simp only[if_true];have e0:yw fn.ntmps args hl=⟨fn.ntmps,c8 (fun _=> .bB) (vH 0 args),jB hl⟩:=by{unfold yw;congr 1;funext t;rw[Nf];simp};rw[e0,h0];simp only[GE];rw[acU];simp only[GE];have cV:sW C fn (hl.map (·.1)) (oH (C.rE f) s)=some (r,outs):=by{simp only at CG;rw[CG];unfold sW;simp only[h4,h5,h6,h7,if_true];rw[←h8];congr 2;cases vs with|nil=>(rfl)|cons a l=>cases l<;>rfl};rcases h3 with h3|h3;·{simp only at h3;subst h3;exact cV};·simp only at h3;subst h3;exact cV
end
end Go.Ab
namespace Go.Ab
open Go
theorem acm{n s:Nat}{t:Nat→U}{h:Id→Option (Option Rows)}{rows:Rows}(hs:t s= .sl rows:=by exact rfl):mb ⟨n,t,h⟩ s=some ⟨n,t,h⟩:=by unfold mb;simp only[hs]
section
variable{C:aL}{f:FuncId}{call:gd}{S:ah}{g:Bool}{d:Nat}{t ty:TypeId}{pos:String}{aZ:Array Edge}{bx:Option (Nat×Bool)}{x:Operand}
def qt(l:List ByteArray):U:= .sl (l.map fun s=>[.val (.string s)])
theorem Sx{α:Type}{c:α→U}{T:TypeId}{y:Operand}{k:IntKind}{e:TypeId}{m len:Nat}{bb:Bool}{i:Int}{r:α}{q:List α}(hi:idx q i=some r)[hu:c7 C T (.array len e)][hs:cM C e bb m](hx:un g (S.get C x)= .aA (q.map c):=by exact rfl)(hy:un g (S.get C y)= .val (.int k i):=by first|exact rfl|exact bU)(hm:m=1:=by exact rfl)(hl:q.length=len:=by exact rfl):bw C f call S g ⟨some d, .indexAddr T x y,ty,pos,aZ,bx⟩=some ⟨[(d, .aA (c r::(q.map c).drop (i.toNat+1)))],[],[]⟩:=by show mQ C S _ T (un g (S.get C x)) (eB (un g (S.get C y)))=_;have hb:=Ag hi;have hn:=gH hi;subst hm hl;have hlt:i.toNat<q.length:=by{omega};have e1:(q.map c).drop (i.toNat*1)=c r::(q.map c).drop (i.toNat+1):=by{have:q[i.toNat]=r:=by{rw[List.getElem?_eq_getElem hlt]at hn;simpa using hn};rw[Nat.mul_one,List.drop_eq_getElem_cons (by simpa using hlt)];simp[this]};simp only[hx,hy,eB,mQ,hu.ul,hs.sz];rw[AC ⟨hb.1,hb.2,by simp;omega⟩,e1];rfl
end
end Go.Ab
