import Derived.Test.YtkmdadjmdgonbaaGreatDoorAbOps7
open Bool renaming true->bv,false->ci
open Option renaming some->ac,none->am
set_option linter.all false
namespace Go.Ab
open Go
abbrev I(n:Int):U:= .val (.int .i64 n)
abbrev B(b:Bool):U:= .val (.bool b)
section
variable{C:aH}{f:FuncId}{call:FuncId->List U->Option (U×List U)}{S:ai}{g:Bool}{ops:Array Oper}
variable{ρ:Type}{d:Option Tmp}{ty:TypeId}{pos:String}{bl:Array Edge}{bS:Option (Nat×Bool)}
@[simp]theorem ar6{α β:Type}[DecidableEq α](f:α->β)(k j:α)(v:β):av f k v j=if j=k then v else f j:=rfl
@[simp]theorem ar5(t:Nat->U):dM t []=t:=rfl
@[simp]theorem ar4(t:Nat->U)(i:Nat)(v:U)(l:List (Nat×U)):dM t ((i,v)::l)=av (dM t l) i v:=rfl
@[simp]theorem ar3(h:Id->Option (Option Rows)):bD h []=h:=rfl
@[simp]theorem ar2(h:Id->Option (Option Rows))(i:Id)(v:Option Rows)(l:List (Id×Option Rows)):bD h ((i,v)::l)=av (bD h l) i (ac v):=rfl
@[simp]theorem anl(n:Nat)(t:Nat->U)(h:Id->Option (Option Rows))(dY:List (Nat×U))(rd:List Id)(wr:List (Id×Option Rows)):ai.app ⟨n,t,h⟩ ⟨dY,rd,wr⟩=⟨n,dM t dY,bD h wr⟩:=rfl
/-! ### Operands, guards -/
@[simp]theorem aoF(t:Nat):S.get C (.tmp t)=S.t t:=rfl
@[simp]theorem aoz(k:IntKind)(n:Int):S.get C (.const (.int k n))= .val (.int k n):=rfl
@[simp]theorem aow(b:Bool):S.get C (.const (.bool b))= .val (.bool b):=rfl
@[simp]theorem aoE(s:ByteArray):S.get C (.const (.string s))= .val (.string s):=rfl
@[simp]theorem aoC:S.get C (.const (.pointer am))= .val (.pointer am):=rfl
@[simp]theorem aoD:S.get C (.const (.slice am 0 0))= .cg:=rfl
@[simp]theorem aoB:S.get C (.const .nilIface)= .val .nilIface:=rfl
@[simp]theorem aoA:S.get C (.const .nilFunc)= .val .nilFunc:=rfl
@[simp]theorem aox(k:FuncId):S.get C (.func k)= .fn (.func k) [] []:=rfl
@[simp]theorem aoy(k:Nat):S.get C (.global k)=match C.ez k with|some cs=>nX cs|none=> .aS:=rfl
@[simp]theorem arX(v:Value):un g (.val v)= .val v:=rfl
@[simp]theorem arS(r:Rows):un g (.sl r)= .sl r:=rfl
@[simp]theorem arY(c:List U):un g (.bL c)= .bL c:=rfl
@[simp]theorem arT:un g .cg= .cg:=rfl
@[simp]theorem arR(i:Id)(a b:Nat):un g (.rs i a b)= .rs i a b:=rfl
@[simp]theorem arN(i:Id)(a b:Nat):un g (.mp i a b)= .mp i a b:=rfl
@[simp]theorem arG(k:Fn)(a b:List U):un g (.fn k a b)= .fn k a b:=rfl
@[simp]theorem arB(c:List U):un g (.agg c)= .agg c:=rfl
@[simp]theorem arW(c:List U):un g (.aC c)= .aC c:=rfl
@[simp]theorem arH:un g .aS= .aS:=rfl
@[simp]theorem arP(r:Rows)(m:Nat):un g (.own r m)= .own r m:=rfl
@[simp]theorem VF(x:U):un g (.dO g x)=x:=by cases g<;>rfl
@[simp]theorem arV(x:U):un g (.dO bv x)=x:=by cases g<;>rfl
@[simp]theorem arC(h:Bool)(x:U):un (g&&h) (.dO g x)=x:=by cases g<;>cases h<;>rfl
@[simp]theorem arD(h:Bool)(x:U):un (g&&h) (.dO (g&&h) x)=x:=VF x
@[simp]theorem arE(h:Bool)(x:U):un (g&&h) (.dO h x)=x:=by cases g<;>cases h<;>rfl
@[simp]theorem arF(h k:Bool)(x:U):un (g&&h&&k) (.dO g x)=x:=by cases g<;>cases h<;>cases k<;>rfl
@[simp]theorem anp(b:Bool):nU (.val (.bool b))=b:=rfl
@[simp]theorem an2{op:Op}:sG C f call S ops ⟨d,op,ty,pos,bl,am⟩=bU C f call S bv ⟨d,op,ty,pos,bl,am⟩:=rfl
def G0(C:aH)(f:FuncId)(call:FuncId->List U->Option (U×List U))(S:ai)(o:Oper)(g:Bool):Option bg:=match bU C f call S g o with|some e=>if e.wr.isEmpty then ac {e with dY:=e.dY.map λx=>(x.1, .dO g x.2)}else if g then ac e else ac (Bp o)|none=>if g then am else ac (Bp o)
def AY(want:Bool):U->Option Bool| .val (.bool b)=>ac (b==want)| .dO g (.val (.bool b))=>ac (g&&(b==want))| .dO ci _=>ac ci|_=>am
@[simp]theorem aoJ(w b:Bool):AY w (.val (.bool b))=ac (b==w):=rfl
@[simp]theorem aoH(w b g:Bool):AY w (.dO g (.val (.bool b)))=ac (g&&(b==w)):=rfl
def uD(w:Bool)(S:ai):Option Nat->Option Bool|some d=>AY w (S.t d)|none=>am
@[simp]theorem RP(w:Bool)(d:Nat):uD w S (ac d)=AY w (S.t d):=rfl
def Ki(ops:Array Oper)(j:Nat):Option Nat:=(ops[j]?).bind (·.dst)
def qb:List Oper->Nat->Option Nat|[],_=>am|o::_,0=>o.dst|_::l,j+1=>qb l j
theorem ab9(l:List Oper)(j:Nat):Ki ⟨l⟩ j=qb l j:=by unfold Ki;simp only[List.getElem?_toArray];induction l generalizing j with|nil=>(simp[qb])|cons o l ih=>cases j with|zero=>(simp[qb])|succ j=>simpa[qb]using ih j
def QA(C:aH)(f:FuncId)(call:FuncId->List U->Option (U×List U))(S:ai)(o:Oper):Option Bool->Option bg|some g=>G0 C f call S o g|none=>am
@[simp]theorem GN(o:Oper)(g:Bool):QA C f call S o (ac g)=G0 C f call S o g:=rfl
def Hf:List (Nat×U)->Bool->List (Nat×U)|[],_=>[]|x::l,g=>(x.1, .dO g x.2)::Hf l g
def Ka(o:Oper)(g:Bool):Option bg->Option bg|some e=>if e.wr.isEmpty then ac ⟨Hf e.dY g,e.rd,e.wr⟩else if g then ac e else ac (Bp o)|none=>if g then am else ac (Bp o)
theorem ad2(l:List (Nat×U))(g:Bool):Hf l g=l.map λx=>(x.1, .dO g x.2):=by induction l with|nil=>(rfl)|cons x l ih=>simp[Hf,ih]
@[simp]theorem G1(o:Oper)(g:Bool):G0 C f call S o g=Ka o g (bU C f call S g o):=by unfold G0 Ka;split<;>simp_all[ad2]
@[simp]theorem anT(o:Oper)(g:Bool)(t:Nat)(v:U)(rd:List Id):Ka o g (ac ⟨[(t,v)],rd,[]⟩)=ac ⟨[(t, .dO g v)],rd,[]⟩:=rfl
@[simp]theorem GZ{op:Op}{j:Nat}{w:Bool}{l:List Oper}:sG C f call S ⟨l⟩ ⟨d,op,ty,pos,bl,ac (j,w)⟩=QA C f call S ⟨d,op,ty,pos,bl,ac (j,w)⟩ (uD w S (qb l j)):=by rw[<-ab9];unfold sG o9 Ki;simp only;cases((⟨l⟩:Array Oper)[j]?).bind (·.dst)with|none=>(rfl)|some d=>simp only[RP];cases S.t d with|val v=>(cases v<;>rfl)|dO g x=>(cases x with|val v=>(cases v<;>cases g<;>rfl)|_=>cases g<;>rfl)|_=>rfl
@[simp]theorem aoI(w:Bool)(x:U):AY w (.dO ci x)=ac false:=by cases x with|val v=>(cases v<;>rfl)|_=>rfl
variable{op:Op}
@[simp]theorem aqG{t:Nat}(v:U):ret ⟨ac t,op,ty,pos,bl,bS⟩ v=ac ⟨[(t,v)],[],[]⟩:=rfl
@[simp]theorem aqz{t:Nat}(v:U)(rd:List Id)(wr:List (Id×Option Rows)):put ⟨ac t,op,ty,pos,bl,bS⟩ v rd wr=⟨[(t,v)],rd,wr⟩:=rfl
@[simp]theorem aqy(v:U)(rd:List Id)(wr:List (Id×Option Rows)):put ⟨am,op,ty,pos,bl,bS⟩ v rd wr=⟨[],rd,wr⟩:=rfl
@[simp]theorem aqF(o:Oper)(v:Value):mU o (ac v)=if gX v then ret o (.val v)else none:=rfl
@[simp]theorem ape(k:IntKind)(n:Int):gX (.int k n)=true:=rfl
@[simp]theorem apd(b:Bool):gX (.bool b)=true:=rfl
@[simp]theorem apf(b:ByteArray):gX (.string b)=true:=rfl
@[simp]theorem an3(o:Oper)(h x y:Bool):wg o (.val (.bool h)) (.val (.bool x)) (.val (.bool y))=ret o (.val (.bool (if h then x else y))):=rfl
@[simp]theorem ard(v:Value):mV (.val v)=ac v:=rfl
@[simp]theorem arc(c:List U):mV (.agg c)=(jB c).map λvs=> .agg ⟨vs⟩:=rfl
@[simp]theorem arf:jB []=ac []:=rfl
@[simp]theorem are(v:Value)(l:List U):jB (.val v::l)=(jB l).map (v::·):=rfl
@[simp]theorem apc(k:IntKind)(n:Int):e8 (.val (.int k n))=ac n:=rfl
@[simp]theorem an1{o:Oper}{op:BinOp}{t:TypeId}{x y:Operand}{fu jC:Value}:uw C o op t x y (.val fu) (.val jC)=mU o (fC C.P op t x y fu jC):=rfl
@[simp]theorem an4{o:Oper}{op:UnOp}{fu:Value}:yo C o op (.val fu)=mU o (FZ C.P op fu):=rfl
theorem acA{o:Oper}{s t:TypeId}{fu:Value}(h:vT C s t=ci):uy C o s t (.val fu)=mU o (GO C.P s t fu):=by simp[uy,h,Du]
variable{P:Program}{t:TypeId}{x y:Operand}{k:IntKind}{a b:Int}
@[simp]theorem Z2:fC P .add t x y (.int k a) (.int k b)=ac (.int k (k.wrap (a+b))):=by simp[fC,eqGuard,binOp,Op.intArith,dA,bind,Sem.bind,pure]
@[simp]theorem aae:fC P .sub t x y (.int k a) (.int k b)=ac (.int k (k.wrap (a-b))):=by simp[fC,eqGuard,binOp,Op.intArith,dA,bind,Sem.bind,pure]
@[simp]theorem Z9:fC P .mul t x y (.int k a) (.int k b)=ac (.int k (k.wrap (a*b))):=by simp[fC,eqGuard,binOp,Op.intArith,dA,bind,Sem.bind,pure]
@[simp]theorem Z3:fC P .eql t x y (.int k a) (.int k b)=ac (.bool (a==b)):=by simp[fC,eqGuard,binOp,Op.intCmp,dA,bind,Sem.bind,pure]
@[simp]theorem aaa:fC P .neq t x y (.int k a) (.int k b)=ac (.bool (a !=b)):=by simp[fC,eqGuard,binOp,Op.intCmp,dA,bind,Sem.bind,pure]
@[simp]theorem Z8:fC P .lss t x y (.int k a) (.int k b)=ac (.bool (decide (a<b))):=by simp[fC,eqGuard,binOp,Op.intCmp,dA,bind,Sem.bind,pure]
@[simp]theorem Z7:fC P .leq t x y (.int k a) (.int k b)=ac (.bool (decide (a<=b))):=by simp[fC,eqGuard,binOp,Op.intCmp,dA,bind,Sem.bind,pure]
@[simp]theorem Z6:fC P .gtr t x y (.int k a) (.int k b)=ac (.bool (decide (b<a))):=by simp[fC,eqGuard,binOp,Op.intCmp,dA,bind,Sem.bind,pure]
@[simp]theorem Z5:fC P .geq t x y (.int k a) (.int k b)=ac (.bool (decide (b<=a))):=by simp[fC,eqGuard,binOp,Op.intCmp,dA,bind,Sem.bind,pure]
@[simp]theorem arO{b:Bool}:FZ P .not (.bool b)=ac (.bool !b):=rfl
@[simp]theorem api{α β:Type}(c:Prop)[Decidable c](a b:Option α)(k:α->Option β):(if c then a else b).bind k=if c then a.bind k else b.bind k:=by split<;>rfl
@[simp]theorem apj{α β:Type}(c:Prop)[Decidable c](a b:Option α)(k:α->β):(if c then a else b).map k=if c then a.map k else b.map k:=by split<;>rfl
/-! ### Ends -/
variable{L:Id->Option (Option Rows)}{n:Nat}
@[simp]theorem aqj(v:Value):pk L (n+1) (.val v)=ac (.val v,[]):=rfl
@[simp]theorem aqh(r:Rows):pk L (n+1) (.sl r)=ac (.sl r,[]):=rfl
@[simp]theorem aqk(r:List U):pk L (n+1) (.bL r)=ac (.bL r,[]):=rfl
@[simp]theorem aqi:pk L (n+1) .cg=ac (.own [] 0,[]):=rfl
@[simp]theorem aqg:pk L (n+1) .aS=ac (.aS,[]):=rfl
@[simp]theorem apa(p:Id)(v:Value):imp p (.val v)=(.val v,[]):=rfl
@[simp]theorem ao9(p:Id)(r:Rows):imp p (.sl r)=(.sl r,[]):=rfl
@[simp]theorem apb(p:Id)(r:List U):imp p (.bL r)=(.bL r,[]):=rfl
@[simp]theorem ao7(p:Id):imp p .aS=(.aS,[]):=rfl
@[simp]theorem ao8(p:Id)(r:Rows)(m:Nat):imp p (.own r m)=(.rs p 0 m,[(p,ac r)]):=rfl
@[simp]theorem aor:e6 []=true:=rfl
@[simp]theorem aoq(r:List U)(l:Rows):e6 (r::l)=(dw r&&e6 l):=by simp[e6]
@[simp]theorem ac3:dw []=true:=rfl
@[simp]theorem ac2(r:U)(l:List U):dw (r::l)=(flat r&&dw l):=by simp[dw]
@[simp]theorem ac9(v:Value):flat (.val v)=true:=by simp[flat]
@[simp]theorem ac8(v:Rows):flat (.sl v)=true:=by simp[flat]
@[simp]theorem ac6(v:Rows):flat (.fo v)=true:=by simp[flat]
@[simp]theorem ac5(v:Rows):flat (.im v)=true:=by simp[flat]
@[simp]theorem aos(v:List U):flat (.bL v)=true:=by simp[flat]
@[simp]theorem ac7(v:Rows)(m:Nat):flat (.own v m)=e6 v:=by simp[flat]
theorem ac4{α:Type}(g:α->List U)(l:List α)(h:∀x,dw (g x)=bv):e6 (l.map g)=true:=by induction l with|nil=>(simp)|cons x l ih=>simp[h,ih]
theorem ajs{id:Id}{len:Nat}{rows:Rows}(h:L id=ac (ac rows))(hl:len<=rows.length)(hf:e6 rows=bv):pk L (n+1) (.rs id 0 len)=ac (.own rows len,[id]):=by simp[pk,qz,h,hl,hf]
@[simp]theorem aj8(m:Nat)(t:Nat->U)(h:Id->Option (Option Rows))(slots:List Nat):j4 ⟨m,t,h⟩ slots=(kE h t slots).bind λx=>if eB x.2 then ac x.1 else none:=by unfold j4;dsimp only;cases kE h t slots<;>rfl
@[simp]theorem apY(t:Nat->U):kE L t []=ac ([],[]):=rfl
@[simp]theorem aiZ(t:Nat->U)(s:Nat)(l:List Nat):kE L t (s::l)=(pk L 9 (t s)).bind λx=>(kE L t l).map λy=>(x.1::y.1,x.2++y.2):=rfl
@[simp]theorem apD(m:Nat)(v:List U):bp m [] v=⟨m,λ_=> .aS,λ_=>am⟩:=rfl
@[simp]theorem apC(m s:Nat)(l:List Nat)(v:U)(vs:List U):bp m (s::l) (v::vs)=⟨m,av (bp m l vs).t s (imp [s] v).1,bD (bp m l vs).h (imp [s] v).2⟩:=rfl
@[simp]theorem aqC{t:Nat}:xh C S (.tmp t)=pk S.h 9 (un bv (S.t t)):=rfl
@[simp]theorem aqE:lT C S []=ac ([],[]):=rfl
@[simp]theorem aqD{r:ResultVar}{l:List ResultVar}:lT C S (r::l)=(xh C S r).bind λx=>(lT C S l).map λy=>(x.1::y.1,x.2++y.2):=rfl
end
end Go.Ab
