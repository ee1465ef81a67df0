import Derived.Test.YtbikcahlonfnmaaGreatAbV7
namespace Go.Ab
open Go
/-! ### Maps as lists of pairs -/
section
variable{K V:Type}
def fy(eq:K→K→Bool):List (K×V)→K→Option V|[],_=>none|e::l,k=>if eq k e.1 then some e.2 else fy eq l k
def mg(eq:K→K→Bool):List (K×V)→K→V→List (K×V)|[],k,v=>[(k,v)]|e::l,k,v=>if eq k e.1 then(k,v)::l else e::mg eq l k v
end
def ow(a b:Int):Bool:=a==b
def iL(a b:ByteArray):Bool:=a==b
theorem K7{a b:ByteArray}:iL a b=true↔a=b:=⟨PF,fun h=>by subst h;exact PG _⟩
class uS{K:Type}(fH:K→Value)(kind:outParam TypeDesc)(eq:outParam (K→K→Bool)):Prop where same:∀a b,Instr.sameNow kind (fH a) (fH b)=some (eq a b)sc:∀a,eJ (fH a)=true
class Km{V:Type}(ev:V→Value):Prop where sc:∀a,eJ (ev a)=true
def pg(n:Int):Value:= .int .i64 n
def Ac(s:ByteArray):Value:= .string s
def Db(b:Bool):Value:= .bool b
instance:uS pg (.int .i64) ow:=⟨fun a b=>rfl,fun _=>rfl⟩
instance:uS Ac .string iL:=⟨fun _ _=>rfl,fun _=>rfl⟩
instance:Km pg:=⟨fun _=>rfl⟩
instance:Km Db:=⟨fun _=>rfl⟩
def mc{K V:Type}(fH:K→Value)(ev:V→Value)(e:K×V):List aa:=[.val (fH e.1), .val (ev e.2)]
section
variable{K V:Type}{fH:K→Value}{ev:V→Value}{kind:TypeDesc}{eq:K→K→Bool}
theorem HX [hk:uS fH kind eq]:∀(l:List (K×V))(k:K),pR kind (fH k) (l.map (mc fH ev))=some ((fy eq l k).map ev)|[],_=>rfl|e::l,k=>by simp only[List.map_cons,mc,pR,hk.same,fy];cases h:eq k e.1 with|true=>(rfl)|false=>simpa[mc]using HX l k
theorem UA [hk:uS fH kind eq]:∀(l:List (K×V))(k:K)(v:V),zl kind (fH k) (ev v) (l.map (mc fH ev))=some ((mg eq l k v).map (mc fH ev))|[],_,_=>rfl|e::l,k,v=>by simp only[List.map_cons,mc,zl,hk.same,mg];cases h:eq k e.1 with|true=>(rfl)|false=>have:=UA l k v;simp[this,mc]
end
class xk(C:aO)(T:TypeId)(kind:outParam TypeDesc)(z:outParam Value):Prop where mt:BN C T=some (kind,z)
section
variable{C:aO}{f:FuncId}{call:FuncId→List aa→Option (aa×List aa)}{S:ak}{g:Bool}
variable{d:Nat}{ty:TypeId}{pos:String}{bg:Array Edge}{bH:Option (Nat×Bool)}{x y z:Operand}{T:TypeId}
variable{K V:Type}{fH:K→Value}{ev:V→Value}{kind:TypeDesc}{eq:K→K→Bool}{cN:V}{l:List (K×V)}{k:K}{v:V}{id:Id}
theorem Ny{uN:Value}[hm:xk C T kind uN](hf:S.h [d]=none:=by exact rfl):bF C f call S g ⟨some d, .makeMap T none,ty,pos,bg,bH⟩=some ⟨[(d, .mr [d])],[],[([d],some [])]⟩:=by show tF C S _ T none=_;simp[tF,hm.mt,hf,put]
theorem TO [hm:xk C T kind (ev cN)][hk:uS fH kind eq](hx:un g (S.get C x)= .mr id:=by first|exact rfl|exact b8)(hh:S.h id=some (some (l.map (mc fH ev))):=by exact rfl)(hy:un g (S.get C y)= .val (fH k):=by first|exact rfl|exact b8):bF C f call S g ⟨some d, .lookup T x y true,ty,pos,bg,bH⟩=some ⟨[(d, .bL [.val (ev ((fy eq l k).getD cN)),B (fy eq l k).isSome])],[id],[]⟩:=by show oz C S _ T (un g (S.get C x)) (un g (S.get C y)) true=_;rw[hx,hy];simp only[oz,hm.mt,vT,hh,HX];cases fy eq l k<;>rfl
theorem ahq [hm:xk C T kind (ev cN)][hk:uS fH kind eq](hx:un g (S.get C x)= .mr id:=by first|exact rfl|exact b8)(hh:S.h id=some (some (l.map (mc fH ev))):=by exact rfl)(hy:un g (S.get C y)= .val (fH k):=by first|exact rfl|exact b8):bF C f call S g ⟨some d, .lookup T x y false,ty,pos,bg,bH⟩=some ⟨[(d, .val (ev ((fy eq l k).getD cN)))],[id],[]⟩:=by show oz C S _ T (un g (S.get C x)) (un g (S.get C y)) false=_;rw[hx,hy];simp only[oz,hm.mt,vT,hh,HX];cases fy eq l k<;>rfl
theorem ahp [hm:xk C T kind (ev cN)][hk:uS fH kind eq](hx:un g (S.get C x)= .im (l.map (mc fH ev)):=by first|exact rfl|exact b8)(hy:un g (S.get C y)= .val (fH k):=by first|exact rfl|exact b8):bF C f call S g ⟨some d, .lookup T x y true,ty,pos,bg,bH⟩=some ⟨[(d, .bL [.val (ev ((fy eq l k).getD cN)),B (fy eq l k).isSome])],[],[]⟩:=by show oz C S _ T (un g (S.get C x)) (un g (S.get C y)) true=_;rw[hx,hy];simp only[oz,hm.mt,vT,HX];cases fy eq l k<;>rfl
theorem TS{uN:Value}[hm:xk C T kind uN][hk:uS fH kind eq][hv:Km ev](hx:un g (S.get C x)= .mr id:=by first|exact rfl|exact b8)(hh:S.h id=some (some (l.map (mc fH ev))):=by exact rfl)(hy:un g (S.get C y)= .val (fH k):=by first|exact rfl|exact b8)(hz:un g (S.get C z)= .val (ev v):=by first|exact rfl|exact b8):bF C f call S g ⟨none, .mapUpdate T x y z,ty,pos,bg,bH⟩=some ⟨[],[id],[(id,some ((mg eq l k v).map (mc fH ev)))]⟩:=by show qT C S _ T (un g (S.get C x)) (un g (S.get C y)) (un g (S.get C z))=_;rw[hx,hy,hz];simp[qT,hm.mt,hh,UA,hk.sc,hv.sc,put]
end
end Go.Ab
namespace Go.Ab
open Go
inductive gC(σ b5:Type)where|go(s:σ)|ret(t:b5)|ex(t:b5)
def ir{α σ b5:Type}(step:α→σ→Option (gC σ b5)):List α→σ→Option (gC σ b5)|[],s=>some (.go s)|y::ys,s=>(step y s).bind fun z=>match z with| .go s'=>ir step ys s'|z=>some z
def gC.on{σ b5 ρ:Type}(y2:σ→Option ρ)(p9 yZ:b5→Option ρ):gC σ b5→Option ρ| .go s=>y2 s| .ret s=>p9 s| .ex s=>yZ s
section
variable{C:aO}{f:FuncId}{call:gA}{S:ak}{Q:Exit×ak→Prop}{assign body:Code}{α σ b5 ρ:Type}{r:ρ}{rep:σ→ak}{fF:b5→ak}{enc:α→List aa}{dy:Operand}{ps:Array Tmp}{j:Nat}
def G9(o:Option (Bool×List Nat))(rep:σ→ak)(fF:b5→ak)(j:Nat)(z:gC σ b5)(x:Exit×ak):Prop:=match z with| .go s=>x.1= .normal∧ej o x.2=some (rep s)| .ret s=>x.1= .ret∧ej o x.2=some (fF s)| .ex s=>x.1= .exit j∧ej o x.2=some (fF s)
def Kj(C:aO)(f:FuncId)(call:gA)(body:Code)(Q:Exit×ak→Prop)(x:Exit×ak):Prop:=x.1= .normal∧W C f call body x.2 Q
theorem JJ{S:ak}(h:W C f call body S Q):Kj C f call body Q (.normal,S):=⟨rfl,h⟩
theorem ajV{step:α→σ→Option (gC σ b5)}{ys:List α}{eW:σ}{y2:σ→Option ρ}{p9 yZ:b5→Option ρ}(rep:σ→ak)(fF:b5→ak)(j:Nat)(hF:(ir step ys eW).bind (gC.on y2 p9 yZ)=some r)(hg:B1 C (un true (S.get C dy))=some (ys.map enc))(h0:ej (zn C f assign body) S=some (rep eW))(R:α→σ→ak)(hR:∀y s,Gj (rep s) ps.toList (enc y)=some (R y s))(round:∀y s z,step y s=some z→W C f call assign (R y s) (Kj C f call body (G9 (zn C f assign body) rep fF j z)))(ai:∀s,y2 s=some r→Q (.normal,rep s))(pr:∀s,p9 s=some r→Q (.ret,fF s))(FK:∀s,yZ s=some r→Q (.exit j,fF s)):W C f call (.rangeFunc dy ps assign body) S Q:=by obtain⟨v,h1,h2⟩:=Option.bind_eq_some_iff.1 hF;have key:∀(ys:List α)(s:σ),ir step ys s=some v→∃x,qU (fun bY=>(cM C f call kk assign bY).bind fun x=>match x.1 with| .normal=>cM C f call kk body x.2|_=>none) (ej (zn C f assign body)) ps.toList (ys.map enc) (rep s)=some x∧Q x:=by{intro ys;induction ys with|nil=>(intro s h;simp only[ir,Option.some.injEq]at h;subst h;exact⟨_,rfl,ai s h2⟩)|cons y ys ih=>intro s h;simp only[ir,Option.bind_eq_some_iff]at h;obtain⟨z,hz,h⟩:=h;obtain⟨⟨e,bY⟩,g1,rfl,⟨e2,dP⟩,g2,g3⟩:=round y s z hz;simp only[List.map_cons,qU,hR,Option.bind_some,g1,g2];cases z with|go s'=>(obtain⟨rfl,g3⟩:=g3;simp only at g3;simp only[g3,Option.bind_some];exact ih s' h)|ret s'=>(obtain⟨rfl,g3⟩:=g3;simp only[Option.some.injEq]at h;subst h;simp only at g3;simp only[g3,Option.bind_some];exact⟨_,rfl,pr s' h2⟩)|ex s'=>obtain⟨rfl,g3⟩:=g3;simp only[Option.some.injEq]at h;subst h;simp only at g3;simp only[g3,Option.bind_some];exact⟨_,rfl,FK s' h2⟩};obtain⟨x,h3,h4⟩:=key ys eW h1;refine⟨x, ?_,h4⟩;simp only[cM,hg,Option.bind_some,h0];exact h3
theorem JK{step:α→σ→Option (gC σ b5)}{ys:List α}{eW:σ}{y2:σ→Option ρ}{p9 yZ:b5→Option ρ}(rep:σ→ak)(fF:b5→ak)(j:Nat)(hF:(ir step ys eW).bind (gC.on y2 p9 yZ)=some r)(hg:B1 C (un true (S.get C dy))=some (ys.map enc))(h0:ej (zn C f assign body) S=some (rep eW)){n:Nat}(hn:∀s,(rep s).n=n)(hl:∀y,ps.toList.length=(enc y).length)(hp:(ps.toList.all fun p=>Nat.blt p n)=true)(round:∀y s z,step y s=some z→W C f call assign ⟨(rep s).n,uk (rep s).t (ps.toList.zip (enc y)),(rep s).h⟩ (Kj C f call body (G9 (zn C f assign body) rep fF j z)))(ai:∀s,y2 s=some r→Q (.normal,rep s))(pr:∀s,p9 s=some r→Q (.ret,fF s))(FK:∀s,yZ s=some r→Q (.exit j,fF s)):W C f call (.rangeFunc dy ps assign body) S Q:=ajV rep fF j hF hg h0 (fun y s=>⟨(rep s).n,uk (rep s).t (ps.toList.zip (enc y)),(rep s).h⟩) (fun y s=>by unfold Gj;rw[if_pos ⟨hl y,by rw[List.all_eq_true]at hp⊢;intro p ae6;rw[decide_eq_true_eq,hn];exact of_decide_eq_true (mG (hp p ae6))⟩]) round ai pr FK
theorem zH{o:Option (Bool×List Nat)}{z:gC σ b5}{s:σ}{S:ak}(hF:some (gC.go s)=some z)(h:ej o S=some (rep s)):G9 o rep fF j z (.normal,S):=by cases hF;exact⟨rfl,h⟩
theorem CF{o:Option (Bool×List Nat)}{z:gC σ b5}{s:b5}{S:ak}(hF:some (gC.ret s)=some z)(h:ej o S=some (fF s)):G9 o rep fF j z (.ret,S):=by cases hF;exact⟨rfl,h⟩
end
section
variable{C:aO}{f:FuncId}{call:gA}{c:Code}{Q:Exit×ak→Prop}{n:Nat}{t t2:Nat→aa}{h:Id→Option (Option Rows)}{l:List Nat}{vs:List aa}{zs:List (Nat×aa)}
theorem N1(k:W C f call c ⟨n,t2,h⟩ Q)(hm:aH n l vs=⟨n,t,h⟩:=by exact Jd)(ht:uk t zs=t2:=by exact rfl):W C f call c ⟨(aH n l vs).n,uk (aH n l vs).t zs,(aH n l vs).h⟩ Q:=by subst ht;rw[hm];exact k
theorem aj6{l:List (Nat×aa)}{h:List (Id×Rows)}(k:W C f call c ⟨n,t2,jW h⟩ Q)(ht:uk (di (fun _=> .bz) l) zs=t2:=by exact rfl):W C f call c ⟨(kr n l h).n,uk (kr n l h).t zs,(kr n l h).h⟩ Q:=by subst ht;exact k
end
end Go.Ab
namespace Go.Ab
open Go
instance:ja jc:=⟨fun x=>by cases x<;>rfl⟩
instance:qC jc:=⟨fun x=>by cases x<;>rfl,fun x=>by cases x<;>rfl⟩
instance:G5 jc jc:=⟨fun x=>by cases x<;>rfl⟩
theorem aik(o:Option Int):fu (ia o)=true:=by cases o<;>rfl
theorem ail(q:List (Option Int)):(q.map jc).all BX=true:=by induction q with|nil=>(rfl)|cons o q ih=>simp only[List.map_cons,List.all_cons,ih,Bool.and_true,jc];cases o<;>rfl
theorem Uv{P:Program}{T e:TypeId}{d:Nat}(hu:P.underlying T=some (.pointer e)):dD P (Op.equalIn (d+1) T (.pointer none) (.pointer none))=some true:=by unfold Op.equalIn;rw[ic,uj hu];rfl
section
variable{C:aO}{f:FuncId}{call:gA}{S:ak}{g:Bool}{d:Nat}{ty:TypeId}{pos:String}{bg:Array Edge}{bH:Option (Nat×Bool)}
theorem vY{cF x:Operand}{ts:Array TypeId}{dA:FuncId}{cells:List aa}{id gv:Id}{n:Nat}{i c:Int}{kids:List Int}{q:List (Option Int)}{el:Option Int}(h1:idx kids i=some c)(h2:idx q c=some el)(hfo:un g (S.get C cF)= .fn (.func dA) [] [.mp id 0 0, .aq cells]:=by exact rfl)(hx:un g (S.get C x)= .val (.int .i64 i):=by first|exact rfl|exact z8|exact b8)(hlk:C.look dA=true:=by exact rfl)(LP:cells[4]? =some (.sl (kids.map fun k=>[.val (.int .i64 k)])):=by exact rfl)(hid:S.h id=some (some [[.rs gv 0 n]]):=by exact rfl)(yl:S.h gv=some (some (q.map jc)):=by exact rfl)(hn:n=q.length:=by exact sE)(ht:zU C cF=false:=by exact rfl)(q9:pathOf C cF=none:=by exact rfl)(dX:C.c6 dA=false:=by exact rfl):bF C f call S g ⟨some d, .call ⟨.value cF, #[x],ts⟩,ty,pos,bg,bH⟩=some ⟨[(d,ia el)],[id,gv],[]⟩:=by rw[HO (Ik hfo dX)];rw[q9];simp only;rw[ht];simp only[Bool.false_eq_true,if_false];rw[hfo];have a1:0≤i∧kids[i.toNat]? =some c:=by{unfold idx at h1;split at h1;·{exact⟨by assumption,h1⟩};·cases h1};have a2:0≤c∧q[c.toNat]? =some el:=by{unfold idx at h2;split at h2;·{exact⟨by assumption,h2⟩};·cases h2};have b1:(kids.map fun k=>[aa.val (.int .i64 k)])[i.toNat]? =some [.val (.int .i64 c)]:=by{rw[List.getElem?_map,a1.2];rfl};have b2:(q.map jc)[c.toNat]? =some [ia el]:=by{rw[List.getElem?_map,a2.2];rfl};simp only[qJ,hlk,if_true,List.map_cons,List.map_nil,hx,List.nil_append,List.cons_append,vS,LP,hid,yl,b1,b2];rw[if_pos ⟨a1.1,a2.1,by rw[hn,List.length_map],ail q,aik el,rfl⟩];rfl
theorem sI{x:Operand}{e:Option Int}{n:Int}(he:e=some n)(hx:un g (S.get C x)=ia e:=by first|exact rfl|exact z8|exact b8):bF C f call S g ⟨some d, .nilCheck x,ty,pos,bg,bH⟩=some ⟨[(d, .aq [I n])],[],[]⟩:=by show AX _ (un g (S.get C x))=_;rw[hx,he];rfl
theorem Nv{x:Operand}{T dw:TypeId}{el:TypeId}{e:Option Int}[hu:eL C T (.pointer el)](hx:un g (S.get C x)=ia e:=by first|exact rfl|exact z8|exact b8):bF C f call S g ⟨some d, .binOp .eql T x (.const (.pointer none)) dw,ty,pos,bg,bH⟩=some ⟨[(d,B e.isNone)],[],[]⟩:=by show ox C _ .eql T x (.const (.pointer none)) (un g (S.get C x)) (.val (.pointer none))=_;rw[hx];cases e with|none=>(have hb:eA C.P .eql T x (.const (.pointer none)) (.pointer none) (.pointer none)=some (.bool true):=by{show dD C.P (do let b←Op.equalIn (9999+1) T (.pointer none) (.pointer none);pure (Value.bool b))=_;rw[ic,Uv hu.ul];rfl};simp only[ox,ia,mB,hb,kS,eJ,ret,put];rfl)|some n=>simp only[ox,ia,mB,hu.ul,Jz];rfl
theorem TQ{x:Operand}{T dw:TypeId}{el:TypeId}{e:Option Int}[hu:eL C T (.pointer el)](hx:un g (S.get C x)=ia e:=by first|exact rfl|exact z8|exact b8):bF C f call S g ⟨some d, .binOp .neq T x (.const (.pointer none)) dw,ty,pos,bg,bH⟩=some ⟨[(d,B e.isSome)],[],[]⟩:=by show ox C _ .neq T x (.const (.pointer none)) (un g (S.get C x)) (.val (.pointer none))=_;rw[hx];cases e with|none=>(have hb:eA C.P .neq T x (.const (.pointer none)) (.pointer none) (.pointer none)=some (.bool false):=by{show dD C.P (do let b←Op.equalIn (9999+1) T (.pointer none) (.pointer none);pure (Value.bool (!b)))=_;rw[ic,Uv hu.ul];rfl};simp only[ox,ia,mB,hb,kS,eJ,ret,put];rfl)|some n=>simp only[ox,ia,mB,hu.ul,Jz];rfl
end
end Go.Ab
namespace Go.Ab
open Go
section
variable{n:Nat}{t:Nat→aa}{h L:Id→Option (Option Rows)}
/-! ### Opened, frozen -/
theorem qg{p s row off:Nat}{id:Id}{r r':List aa}{x:Id×Option Rows}{wr:List (Id×Option Rows)}(hs:t s= .mp id row off:=by exact rfl)(hid:h id=some (some [r]):=by exact rfl)(hu:bQ [p,s] 0 r=(r',x::wr):=by exact Aa)(MG:Nat.blt s n=true:=by exact rfl)(hf:fresh h (x::wr)=true:=by exact rfl):uh p ⟨n,t,h⟩ s=some ⟨n,t,bw h ((id,some [r'])::x::wr)⟩:=aij hs hid hu MG hf
def af1:aa→Bool| .rs _ _ _| .cu| .mr _=>true|_=>false
theorem ac4{s:Nat}{v v':aa}{ids:List Id}{wr:List (Id×Option Rows)}(hl:af1 (t s)=true:=by exact rfl)(hp:pk h 9 (t s)=some (v,ids):=by exact mm)(hf:dW v=v':=by exact Ef)(hn:eu ids=true:=by exact rfl)(hw:(ids.map fun i=>(i,none))=wr:=by exact spine):pS ⟨n,t,h⟩ s=some ⟨n,av t s v',bw h wr⟩:=by have e:pT ⟨n,t,h⟩ s=some ⟨n,av t s v',bw h wr⟩:=by{subst hf hw;simp only[pT,hp,hn,if_true]};rw[←e];cases hts:t s<;>rw[hts]at hl<;>first|(unfold pS;simp only[hts];done)|cases hl
/-! ### Names of what arguments lead to -/
def Tk:aa→Bool| .fn _ as cs=> !(as.isEmpty&&cs.isEmpty)| .rs _ _ _=>true| .mp _ _ _=>true| .mr _=>true| .agg _=>true|_=>false
variable{m j:Nat}{b:Bool}{p i:Id}{acc acc' og y l:List (Id×Id)}{a:aa}{as cs eC:List aa}
theorem P9(hx:eC=[])(e:acc=y):eD L m b p j acc eC=y:=by subst hx;cases m<;>exact e
theorem aaz(hx:eC=a::as)(hs:Tk a=false)(k:eD L m b p (j+1) acc as=y):eD L (m+1) b p j acc eC=y:=by subst hx;cases a with|fn f xs cs=>(simp only[Tk,Bool.not_eq_false',Bool.and_eq_true,List.isEmpty_iff]at hs;obtain⟨rfl,rfl⟩:=hs;have e:eD L m true (j::p) 0 acc ([]++[])=acc:=by{cases m<;>rfl};simp only[eD,e];exact k)|_=>first|exact k|cases hs
theorem aay{o q:Nat}(hx:eC= .rs i o q::as)(hn:(!b||(fT acc i).isSome)=true)(k:eD L m b p (j+1) acc as=y):eD L (m+1) b p j acc eC=y:=by subst hx;simp only[eD,hn];exact k
theorem aaw{o q:Nat}(hx:eC= .mp i o q::as)(hn:(fT acc i).isSome=false)(hh:L i=some (some [cs]))(hl:acc++[(i,j::p)]=acc')(h1:eD L m false (j::p) 0 acc' cs=og)(k:eD L m b p (j+1) og as=y):eD L (m+1) b p j acc eC=y:=by subst hx hl h1;simp only[eD,hn,hh];exact k
theorem aax{o q:Nat}(hx:eC= .mp i o q::as)(hn:(fT acc i).isSome=true)(k:eD L m b p (j+1) acc as=y):eD L (m+1) b p j acc eC=y:=by subst hx;simp only[eD,hn];exact k
theorem aau(hx:eC= .agg cs::as)(h1:eD L m b (j::p) 0 acc cs=og)(k:eD L m b p (j+1) og as=y):eD L (m+1) b p j acc eC=y:=by subst hx h1;simp only[eD];exact k
theorem aav{f:Fn}{xs:List aa}(hx:eC= .fn f xs cs::as)(h1:eD L m true (j::p) 0 acc (xs++cs)=og)(k:eD L m b p (j+1) og as=y):eD L (m+1) b p j acc eC=y:=by subst hx h1;simp only[eD];exact k
theorem Qa(k:eD L m b p j acc eC=y:=by(repeat'(first|((with_reducible apply P9);(with_reducible exact rfl);exact rfl)|((with_reducible apply aaz);exact rfl;first|exact rfl|exact aox|exact aoy)|((with_reducible apply amc);exact rfl;exact rfl;exact spine)|((with_reducible apply aay);exact rfl;exact rfl)|((with_reducible apply ama);exact rfl;exact rfl;exact spine)|((with_reducible apply amb);exact rfl;exact rfl)|((with_reducible apply aax);exact rfl;exact rfl)|((with_reducible apply aaw);exact rfl;exact rfl;exact rfl;exact spine)|((with_reducible apply aau);exact rfl)|((with_reducible apply aav);exact rfl)|(apply P9;exact rfl;exact rfl)));first|done|fail):eD L m b p j acc eC=y:=k
/-! ### The objects that go -/
variable{o k:Id}{r l':List (Id×Id)}{rows x1 br:Rows}{i1 i2 gone ids:List Id}{obs outs:List aa}{keep:Id→Bool}{back:List (Id×Option Rows)}
theorem aa6(hf:eH rows=true):ny L keep rows=some (rows,[]):=by simp only[ny,hf,if_true]
theorem aa7(hf:eH rows=false)(hc:ec (k5 L keep) rows=some (br,ids)):ny L keep rows=some (br,ids):=by simp[ny,hf,hc]
theorem Ql{y:Option (Rows×List Id)}(k:ny L keep rows=y:=by(repeat'(first|(apply aa6;first|exact qW _|exact rfl|exact Lh)|(apply amh;exact rfl;exact rfl;(first|(with_reducible assumption)|assumption);exact inferInstance;rotate_left;exact rfl)|(apply aa7;exact rfl)|exact Rj|(apply Rk;exact rfl)|exact aa4|(apply Qj;exact rfl)|exact KM|exact KN|exact P4|exact KO|(apply P6;exact rfl;exact rfl;exact mm)|(apply KP;exact rfl;exact rfl;exact mm)|(apply P5;exact rfl;exact rfl;exact mm)|(apply DR;first|exact rfl|exact Ra|exact Rc|exact Rb)|exact KL|exact A1|(apply D9;exact rfl)));first|done|fail):ny L keep rows=y:=k
theorem ahA:hU L l []=some ([],[]):=rfl
theorem ahz(h:L o=some (some rows))(hc:ny L (uc l) rows=some (x1,i1))(hr:mu l x1=some br)(hy:hU L l r=some (obs,gone)):hU L l ((o,k)::r)=some (.dL k br::obs,i1++gone):=by simp[hU,h,hc,hr,hy]
theorem T3{y:Option (List aa×List Id)}(k:hU L l r=y:=by(repeat'(first|exact ahA|(apply ahz;exact rfl;exact Ql;(first|exact N2|exact N3|exact N4))));first|done|fail):hU L l r=y:=k
theorem ZC:iw l' [] []=some []:=rfl
theorem ZA(hr:mu l' rows=some br)(hy:iw l' r outs=some back):iw l' ((o,k)::r) (.dL k rows::outs)=some ((o,some br)::back):=by simp[iw,hr,hy]
theorem ZB(hy:iw l' r outs=some back):iw l' ((o,k)::r) (.bz::outs)=some ((o,none)::back):=by simp[iw,hy]
theorem aaC:jF L []=[]:=rfl
theorem aaB{x:Id×Option Rows}{fG:List (Id×Option Rows)}(hs:zK L x=true)(k:jF L fG=back):jF L (x::fG)=back:=by unfold jF at*;rw[List.filter_cons_of_neg (by simp[hs])];exact k
theorem aaA{x:Id×Option Rows}{fG:List (Id×Option Rows)}(hs:zK L x=false)(k:jF L fG=back):jF L (x::fG)=x::back:=by unfold jF at*;rw[List.filter_cons_of_pos (by simp[hs]),k]
theorem Qb{fG:List (Id×Option Rows)}{y:List (Id×Option Rows)}(k:jF L fG=y:=by(repeat'(first|exact aaC|(apply aaB;exact rfl)|(apply aaA;first|exact apo|exact rfl)));first|done|fail):jF L fG=y:=k
theorem PL{y:Option (List (Id×Option Rows))}(k:iw l' r outs=y:=by(repeat'(first|exact ZC|(apply ZA;(first|exact N2|exact N3|exact N4))|apply ZB));first|done|fail):iw l' r outs=y:=k
/-! Values under other names -/
theorem aj9(hf:flat a=true):fj l a=a:=by cases a with|agg cs=>(simp only[flat]at hf;simp[fj,Gg hf])|bL cs=>(simp only[flat]at hf;simp[fj,Gg hf])|fn f as cs=>(simp only[flat,Bool.and_eq_true]at hf;simp[fj,Gg hf.1,Gg hf.2])|rs _ _ _=>(simp[flat]at hf)|mp _ _ _=>(simp[flat]at hf)|mr _=>(simp[flat]at hf)|dz _ _=>(simp[flat]at hf)|cu=>(simp[flat]at hf)|_=>simp only[fj,rH,zG];rw[if_pos hf]
theorem ab3(hf:cT cs=true):flat (.agg cs)=true:=hf
theorem ab5{α:Type}{c:α→List aa}{x:α}[hc:ja c]:cT (c x)=true:=hc.cY x
theorem Lk{a:aa}(k:flat a=true:=by(repeat'(first|exact rfl|exact ab4|exact ab9|exact ab8|(with_reducible apply ab3)|(with_reducible apply am4)|exact ab5|exact ab7|(apply Q9;exact rfl)));first|done|fail):flat a=true:=k
theorem N9{a':aa}(k:fj l a=a':=by first|(refine aj9 ?_;exact Lk)|exact rfl):fj l a=a':=k
theorem ajQ(hx:eC=[]:=by exact rfl):eC.map (fj l)=[]:=by subst hx;rfl
theorem ajP{a':aa}{bs:List aa}(hx:eC=a::as)(h:fj l a=a')(k:as.map (fj l)=bs):eC.map (fj l)=a'::bs:=by subst hx h k;rfl
theorem Vk{bs:List aa}(k:eC.map (fj l)=bs:=by(repeat'(first|exact ajQ|(apply ajP;exact rfl;exact N9)));first|done|fail):eC.map (fj l)=bs:=k
end
section
variable{C:aO}{f:FuncId}{call:gA}{S:ak}{g:Bool}{d:Nat}{ty:TypeId}{pos:String}{bg:Array Edge}{bH:Option (Nat×Bool)}
variable{cF:Operand}{ts:Array TypeId}{dA:FuncId}{as bs args B2 obs outs FG ao9:List aa}{l:List (Id×Id)}{gone:List Id}{r v v':aa}{back HA jz wr:List (Id×Option Rows)}{xs:Array Operand}
theorem abQ{d':Option Tmp}(hfo:un g (S.get C cF)= .fn (.func dA) as bs)(dX:C.c6 dA=true):bF C f call S g ⟨d', .call ⟨.value cF,xs,ts⟩,ty,pos,bg,bH⟩=qK C f call S ⟨d', .call ⟨.value cF,xs,ts⟩,ty,pos,bg,bH⟩ dA (as++(xs.toList.map fun x=>un g (S.get C x))++bs):=by show(match nC C (un g (S.get C cF))with|some x=>qK C f call S _ x.1 (x.2.1++(xs.toList.map fun x=>un g (S.get C x))++x.2.2)|none=>_)=_;have:nC C (un g (S.get C cF))=some (dA,as,bs):=by{rw[hfo];simp[nC,dX]};rw[this]
theorem P1(hc:call dA (.bL obs::B2)=some (r,outs))(hfo:un g (S.get C cF)= .fn (.func dA) as bs)(dX:C.c6 dA=true)(ha:as++(xs.toList.map fun x=>un g (S.get C x))++bs=args)(hl:eD S.h 60 true [jm] 0 [] args=l)(ho:hU S.h l l=some (obs,gone))(EW:args.map (fj l)=B2)(yf:(eu (l.map (·.1))&&eu (l.map (·.2))&&(l.all fun x=>jl x.2)&&eu gone&&tA gone (l.map (·.1)))=true)(hb:iw (l.map fun x=>(x.2,x.1)) l outs=some back)(hp:BA r=false)(hv:fj (l.map fun x=>(x.2,x.1)) (if eX C f (some d)then(if flat r then dW r else .bz)else r)=v)(hi:imp [d] v=(v',jz))(hf:fresh S.h jz=true)(hw:jz++(jF S.h back++gone.map fun i=>(i,none))=wr):bF C f call S g ⟨some d, .call ⟨.value cF,xs,ts⟩,ty,pos,bg,bH⟩=some ⟨[(d,v')],l.map (·.1),wr⟩:=by rw[abQ hfo dX,ha];subst hw;have e:si call S.h dA args=some ⟨r,l,back,gone⟩:=by{unfold si Ei;rw[hl,ho];simp only[yf,if_true,EW,hc,hb,Option.map_some]};unfold qK;rw[e];simp only[Option.bind_some,hp,Bool.false_eq_true,if_false,iy,hv,hi,hf,if_true];rfl
theorem BT(hc:call dA (.bL obs::B2)=some (r,outs)){rd:List Id}(hfo:un g (S.get C cF)= .fn (.func dA) as bs:=by exact rfl)(dX:C.c6 dA=true:=by exact rfl)(ha:as++(xs.toList.map fun x=>un g (S.get C x))++bs=args:=by exact spine)(hl:eD S.h 60 true [jm] 0 [] args=l:=by exact Qa)(ho:hU S.h l l=some (FG,gone):=by exact T3)(ER:FG=obs:=by exact rfl)(EW:args.map (fj l)=B2:=by exact Vk)(yf:(eu (l.map (·.1))&&eu (l.map (·.2))&&(l.all fun x=>jl x.2)&&eu gone&&tA gone (l.map (·.1)))=true:=by exact rfl)(hb:iw (l.map fun x=>(x.2,x.1)) l outs=some back:=by exact PL)(hp:BA r=false:=by exact rfl)(hz:(C.eR f).contains d=false:=by exact rfl)(hv:fj (l.map fun x=>(x.2,x.1)) r=v:=by exact N9)(hi:imp [d] v=(v',jz):=by exact yO)(hf:fresh S.h jz=true:=by exact rfl)(iN:jF S.h back=HA:=by exact Qb)(hw:jz++(HA++gone.map fun i=>(i,none))=wr:=by exact spine)(hrd:l.map (·.1)=rd:=by exact spine):bF C f call S g ⟨some d, .call ⟨.value cF,xs,ts⟩,ty,pos,bg,bH⟩=some ⟨[(d,v')],rd,wr⟩:=by subst hrd ER;exact P1 hc hfo dX ha hl ho EW yf hb hp (by simp only[eX,hz,Bool.false_eq_true,if_false];exact hv) hi hf (by rw[iN];exact hw)
theorem zc(hc:call dA (.bL obs::B2)=some (r,outs)){rd:List Id}{v0:aa}(hfo:un g (S.get C cF)= .fn (.func dA) as bs:=by exact rfl)(dX:C.c6 dA=true:=by exact rfl)(ha:as++(xs.toList.map fun x=>un g (S.get C x))++bs=args:=by exact spine)(hl:eD S.h 60 true [jm] 0 [] args=l:=by exact Qa)(ho:hU S.h l l=some (FG,gone):=by exact T3)(ER:FG=obs:=by exact rfl)(EW:args.map (fj l)=B2:=by exact Vk)(yf:(eu (l.map (·.1))&&eu (l.map (·.2))&&(l.all fun x=>jl x.2)&&eu gone&&tA gone (l.map (·.1)))=true:=by exact rfl)(hb:iw (l.map fun x=>(x.2,x.1)) l outs=some back:=by exact PL)(hp:BA r=false:=by exact rfl)(hz:(C.eR f).contains d=true:=by exact rfl)(hfl:flat r=true:=by exact Lk)(hfz:dW r=v0:=by exact Ef)(hv:fj (l.map fun x=>(x.2,x.1)) v0=v:=by exact N9)(hi:imp [d] v=(v',jz):=by exact yO)(hf:fresh S.h jz=true:=by exact rfl)(iN:jF S.h back=HA:=by exact Qb)(hw:jz++(HA++gone.map fun i=>(i,none))=wr:=by exact spine)(hrd:l.map (·.1)=rd:=by exact spine):bF C f call S g ⟨some d, .call ⟨.value cF,xs,ts⟩,ty,pos,bg,bH⟩=some ⟨[(d,v')],rd,wr⟩:=by subst hrd ER;exact P1 hc hfo dX ha hl ho EW yf hb hp (by simp only[eX,hz,if_true,hfl,hfz];exact hv) hi hf (by rw[iN];exact hw)
end
/-! ### Functions -/
def Dd:Nat→List aa→List (Nat×aa)|_,[]=>[]|i,p::ps=>(i,p)::Dd (i+1) ps
theorem Wi:∀(ps:List aa)(i t:Nat),di (fun _=> .bz) (Dd i ps) t=if t<i then .bz else ps.getD (t-i) .bz|[],i,t=>by{simp[Dd,di]}|p::ps,i,t=>by simp only[Dd,di,av];by_cases e:t=i;·{subst e;simp};·rw[if_neg e,Wi ps (i+1) t];by_cases h1:t<i;·{rw[if_pos h1,if_pos (by omega)]};·rw[if_neg h1,if_neg (by omega),show t-i=(t-(i+1))+1 by omega];rfl
def OM(C:aO)(f:FuncId)(rv:List ResultVar)(ks:List Id)(r:aa)(outs:List aa)(x:Exit×ak):Prop:=(x.1= .ret∨x.1= .normal)∧∃S al vs i1 i2,ry (C.u9 f) x.2=S∧(ks.filter fun k=>mY (S.h k))=al∧mw C S (ot S.h fun i=>al.contains i) rv=some (vs,i1)∧lF S.h (fun i=>al.contains i) ks=some (outs,i2)∧eu (al++(i1++i2))=true∧zg vs=r
section
variable{C:aO}{f:FuncId}{S:ak}{rv:List ResultVar}{ks al:List Id}{vs outs outs' cs cs':List aa}{ids is i1 i2:List Id}{r v v' x:aa}{p:aa→Option (aa×List Id)}{L:Id→Option (Option Rows)}{keep:Id→Bool}{rows br:Rows}{k:Id}{T:TypeId}
theorem ajZ:mw C S p []=some ([],[]):=rfl
theorem aj1{t:Nat}(h:p (un true (S.t t))=some (v,ids))(hr:mw C S p rv=some (vs,is)):mw C S p (.tmp t::rv)=some (v::vs,ids++is):=by show(wJ C S p (.tmp t)).bind _=_;simp only[wJ,h,Option.bind_some,hr,Option.map_some]
theorem aj0{a m:Nat}{id:Id}{bb:Bool}{r:List aa}[ha:dr C T bb m](hx:un true (S.t a)= .mp id 0 0)(hh:S.h id=some (some [r]))(hl:Nat.ble m r.length=true)(hv:jX bb (r.take m)=some v)(h:p v=some (v',ids))(hr:mw C S p rv=some (vs,is)):mw C S p (.cell a T::rv)=some (v'::vs,id::ids++is):=by show(wJ C S p (.cell a T)).bind _=_;have hl':0+m≤r.length:=by{have:=Nat.le_of_ble_eq_true hl;omega};simp only[wJ,ha.kY,ha.sz,hx,hh,List.getElem?_cons_zero,if_pos hl',List.drop_zero,hv,Option.bind_some,h,hr,Option.map_some]
theorem Qc:∀{cs:List aa},cT cs=true→dV (gm L keep) cs=some (cs,[])|[],_=>rfl|c::cs,h=>by simp only[cT,Bool.and_eq_true]at h;simp only[dV,DR h.1,Option.bind_some,Qc h.2,Option.map_some];rfl
theorem abd(hf:flat x=true):ot L keep x=some (x,[]):=by cases x with|agg cs=>(simp only[flat]at hf;simp only[ot,Qc hf,Option.map_some])|_=>exact DR (h:=L) (keep:=keep) hf
theorem abb(hx:x= .agg cs:=by exact rfl)(h:dV (gm L keep) cs=some (cs',ids)):ot L keep x=some (.agg cs',ids):=by subst hx;simp only[ot,h,Option.map_some]
def isAgg:aa→Bool| .agg _=>true|_=>false
theorem KZ{y:Option (aa×List Id)}(k:ot L keep x=y:=by(repeat'(first|(refine abd ?_;exact Lk)|(apply abb;exact rfl)|(apply aml;exact rfl)|exact KM|exact KN|exact P4|exact KO|(apply P6;exact rfl;exact rfl;exact mm)|(apply KP;exact rfl;exact rfl;exact mm)|(apply P5;exact rfl;exact rfl;exact mm)|(apply DR;first|exact rfl|exact Ra|exact Rc|exact Rb)|exact KL|exact A1|(apply D9;exact rfl)));first|done|fail):ot L keep x=y:=k
theorem aj2{y:Option (List aa×List Id)}(h:mw C S (ot L keep) rv=y:=by repeat'(first|with_reducible exact ajZ|((with_reducible apply aj1);exact KZ)|((with_reducible apply aj0);exact rfl;exact rfl;exact rfl;(first|exact Jb|exact Jc rfl);exact KZ)|((with_reducible apply apj);exact rfl;exact rfl;(first|exact Jb|exact Jc rfl);exact KZ))):mw C S (ot L keep) rv=y:=h
theorem aht:lF L keep []=some ([],[]):=rfl
theorem ahr(h:L k=some (some rows))(hc:ny L keep rows=some (br,i1))(hy:lF L keep ks=some (outs,i2)):lF L keep (k::ks)=some (.dL k br::outs,i1++i2):=by simp[lF,h,hc,hy]
theorem ahs(h:mY (L k)=false)(hy:lF L keep ks=some (outs,i2)):lF L keep (k::ks)=some (.bz::outs,i2):=by unfold lF;split;·{rename_i rows e;rw[e]at h;cases h};·rw[hy];rfl
theorem ahu{y:Option (List aa×List Id)}(h:lF L keep ks=y:=by(repeat'(first|exact aht|(apply ahr;exact rfl;exact Ql)|(apply ahs;exact rfl)));first|done|fail):lF L keep ks=y:=h
theorem ab6{p:Id→Bool}:List.filter p []=([]:List Id):=rfl
theorem acf{p:Id→Bool}{k:Id}{ks al:List Id}(h:p k=true)(hy:List.filter p ks=al):List.filter p (k::ks)=k::al:=by rw[List.filter_cons_of_pos h,hy]
theorem acg{p:Id→Bool}{k:Id}{ks al:List Id}(h:p k=false)(hy:List.filter p ks=al):List.filter p (k::ks)=al:=by rw[List.filter_cons_of_neg (by simp[h]),hy]
theorem aco{p:Id→Bool}{y:List Id}(h:List.filter p ks=y:=by(repeat'(first|exact ab6|(apply acf;exact rfl)|(apply acg;exact rfl)));first|done|fail):List.filter p ks=y:=h
theorem agk{S:ak}{l:List Id}(hl:l=[]:=by exact rfl):ry l S=S:=by subst hl;rfl
theorem agl{n:Nat}{t:Nat→aa}{h:Id→Option (Option Rows)}{l l2:List Id}(hl:l=l2:=by exact spine):ry l ⟨n,t,h⟩=⟨n,t,bw h (l2.map fun i=>(i,none))⟩:=by subst hl;rfl
theorem agm{S S':ak}{l:List Id}(k:ry l S=S':=by first|exact agk|exact agl):ry l S=S':=k
theorem tH{gO:ak}(hk:ry (C.u9 f) gO=S:=by exact agm)(ha:(ks.filter fun k=>mY (S.h k))=al:=by exact aco)(h:mw C S (ot S.h fun i=>al.contains i) rv=some (vs,i1):=by exact aj2)(ho:lF S.h (fun i=>al.contains i) ks=some (outs',i2):=by exact ahu)(ER:outs'=outs:=by exact rfl)(hn:eu (al++(i1++i2))=true:=by exact rfl)(hr:zg vs=r:=by exact rfl):OM C f rv ks r outs (.ret,gO):=by subst ER;exact⟨.inl rfl,S,al,vs,i1,i2,hk,ha,h,ho,hn,hr⟩
theorem AZ{fn:Func}{c:Code}{obs args:List aa}{hl:List (Id×Rows)}{zs:List (Nat×aa)}{nn N:Nat}(hf:C.P.funcs[f]? =some fn)(hn:fn.ntmps=N)(hr:fn.results.toList=rv)(k:qB jm (C.j4 f jm) [] (fun gO=>W C f (den C nn) c gO (OM C f rv ks r outs)) ⟨N,di (fun _=> .bz) zs,jW hl⟩)(hb:fn.body=some c:=by exact rfl)(he:C.ext f=none:=by exact rfl)(dX:C.c6 f=true:=by exact rfl)(hl':Nat.ble args.length N=true:=by exact rfl)(bI:Nat.ble N jm=true:=by exact rfl)(ho:rB obs=some hl:=by exact rfl)(hz:Dd 0 args=zs:=by exact spine)(hk:hl.map (·.1)=ks:=by exact spine):den C (nn+1) f (.bL obs::args)=some (r,outs):=by obtain⟨gO,h0,bY,h1,⟨e,s⟩,h2,h3,alR,al,vs,i1,i2,jT,h4,h5,h6,h7,h8⟩:=k;simp only[ld,Option.some.injEq]at h1;subst h1;subst hr hn hz hk;show vc C (den C nn) kk f _=_;unfold vc;simp only[he,hf,hb,dX,if_true];unfold HS;simp only[ho];rw[if_pos ⟨Nat.le_of_ble_eq_true hl',Nat.le_of_ble_eq_true bI⟩];have e0:GB fn.ntmps args hl=⟨fn.ntmps,di (fun _=> .bz) (Dd 0 args),jW hl⟩:=by{unfold GB;congr 1;funext t;rw[Wi];simp};rw[e0,h0];simp only[Option.bind_some,h2];have cD:xX C fn (hl.map (·.1)) (ry (C.u9 f) s)=some (r,outs):=by{simp only at jT;rw[jT];unfold xX;simp only[h4,h5,h6,h7,if_true];rw[←h8];congr 2;cases vs with|nil=>(rfl)|cons a l=>cases l<;>rfl};rcases h3 with h3|h3;·{simp only at h3;subst h3;exact cD};·simp only at h3;subst h3;exact cD
end
end Go.Ab
