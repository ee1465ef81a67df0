import Derived.Test.YtbbhbdlljfffdaaGreatDoorAbOps7
set_option linter.all false
namespace Go.Ab
open Go
abbrev I(n:Int):U:= .val (.int .i64 n)
abbrev B(b:Bool):U:= .val (.bool b)
section
variable{C:aF}{f:FuncId}{call:FuncId->List U->Option (U×List U)}{S:aj}{g:Bool}{ops:Array Oper}
variable{ρ:Type}{d:Option Tmp}{ty:TypeId}{pos:String}{bt:Array Edge}{bS:Option (Nat×Bool)}
@[simp]theorem arS{α β:Type}[DecidableEq α](f:α->β)(k j:α)(v:β):au f k v j=if j=k then v else f j:=rfl
@[simp]theorem arR(t:Nat->U):dR t []=t:=rfl
@[simp]theorem arQ(t:Nat->U)(i:Nat)(v:U)(l:List (Nat×U)):dR t ((i,v)::l)=au (dR t l) i v:=rfl
@[simp]theorem arP(h:Id->Option (Option Rows)):bE h []=h:=rfl
@[simp]theorem arO(h:Id->Option (Option Rows))(i:Id)(v:Option Rows)(l:List (Id×Option Rows)):bE h ((i,v)::l)=au (bE h l) i (some v):=rfl
@[simp]theorem amJ(n:Nat)(t:Nat->U)(h:Id->Option (Option Rows))(eu:List (Nat×U))(rd:List Id)(wr:List (Id×Option Rows)):aj.app ⟨n,t,h⟩ ⟨eu,rd,wr⟩=⟨n,dR t eu,bE h wr⟩:=rfl
/-! ### Operands, guards -/
@[simp]theorem aog(t:Nat):S.get C (.tmp t)=S.t t:=rfl
@[simp]theorem aoa(k:IntKind)(n:Int):S.get C (.const (.int k n))= .val (.int k n):=rfl
@[simp]theorem an7(b:Bool):S.get C (.const (.bool b))= .val (.bool b):=rfl
@[simp]theorem aof(s:ByteArray):S.get C (.const (.string s))= .val (.string s):=rfl
@[simp]theorem aod:S.get C (.const (.pointer none))= .val (.pointer none):=rfl
@[simp]theorem aoe:S.get C (.const (.slice none 0 0))= .cI:=rfl
@[simp]theorem aoc:S.get C (.const .nilIface)= .val .nilIface:=rfl
@[simp]theorem aob:S.get C (.const .nilFunc)= .val .nilFunc:=rfl
@[simp]theorem an8(k:FuncId):S.get C (.func k)= .fn (.func k) [] []:=rfl
@[simp]theorem an9(k:Nat):S.get C (.global k)=match C.eH k with|some cs=> .bD cs|none=> .aW:=rfl
@[simp]theorem arJ(v:Value):un g (.val v)= .val v:=rfl
@[simp]theorem arE(r:Rows):un g (.sl r)= .sl r:=rfl
@[simp]theorem arK(c:List U):un g (.bD c)= .bD c:=rfl
@[simp]theorem arF:un g .cI= .cI:=rfl
@[simp]theorem arD(i:Id)(a b:Nat):un g (.rs i a b)= .rs i a b:=rfl
@[simp]theorem arA(i:Id)(a b:Nat):un g (.mp i a b)= .mp i a b:=rfl
@[simp]theorem art(k:Fn)(a b:List U):un g (.fn k a b)= .fn k a b:=rfl
@[simp]theorem arn(c:List U):un g (.agg c)= .agg c:=rfl
@[simp]theorem arI(c:List U):un g (.aL c)= .aL c:=rfl
@[simp]theorem aru:un g .aW= .aW:=rfl
@[simp]theorem arC(r:Rows)(m:Nat):un g (.own r m)= .own r m:=rfl
@[simp]theorem Vz(x:U):un g (.dV g x)=x:=by cases g<;>rfl
@[simp]theorem arH(x:U):un g (.dV true x)=x:=by cases g<;>rfl
@[simp]theorem aro(h:Bool)(x:U):un (g&&h) (.dV g x)=x:=by cases g<;>cases h<;>rfl
@[simp]theorem arp(h:Bool)(x:U):un (g&&h) (.dV (g&&h) x)=x:=Vz x
@[simp]theorem arq(h:Bool)(x:U):un (g&&h) (.dV h x)=x:=by cases g<;>cases h<;>rfl
@[simp]theorem ars(h k:Bool)(x:U):un (g&&h&&k) (.dV g x)=x:=by cases g<;>cases h<;>cases k<;>rfl
@[simp]theorem amP(b:Bool):oq (.val (.bool b))=b:=rfl
@[simp]theorem anw{op:Op}:tu C f call S ops ⟨d,op,ty,pos,bt,none⟩=bU C f call S true ⟨d,op,ty,pos,bt,none⟩:=rfl
def HR(C:aF)(f:FuncId)(call:FuncId->List U->Option (U×List U))(S:aj)(o:Oper)(g:Bool):Option bn:=match bU C f call S g o with|some e=>if e.wr.isEmpty then some {e with eu:=e.eu.map fun x=>(x.1, .dV g x.2)}else if g then some e else some (Ck o)|none=>if g then none else some (Ck o)
def BU(want:Bool):U->Option Bool| .val (.bool b)=>some (b==want)| .dV g (.val (.bool b))=>some (g&&(b==want))| .dV false _=>some false|_=>none
@[simp]theorem aol(w b:Bool):BU w (.val (.bool b))=some (b==w):=rfl
@[simp]theorem aoj(w b g:Bool):BU w (.dV g (.val (.bool b)))=some (g&&(b==w)):=rfl
def uU(w:Bool)(S:aj):Option Nat->Option Bool|some d=>BU w (S.t d)|none=>none
@[simp]theorem RB(w:Bool)(d:Nat):uU w S (some d)=BU w (S.t d):=rfl
def KN(ops:Array Oper)(j:Nat):Option Nat:=(ops[j]?).bind (·.dst)
def qP:List Oper->Nat->Option Nat|[],_=>none|o::_,0=>o.dst|_::l,j+1=>qP l j
theorem abP(l:List Oper)(j:Nat):KN ⟨l⟩ j=qP l j:=by unfold KN;simp only[List.getElem?_toArray];induction l generalizing j with|nil=>(simp[qP])|cons o l ih=>cases j with|zero=>(simp[qP])|succ j=>simpa[qP]using ih j
def QC(C:aF)(f:FuncId)(call:FuncId->List U->Option (U×List U))(S:aj)(o:Oper):Option Bool->Option bn|some g=>HR C f call S o g|none=>none
@[simp]theorem HE(o:Oper)(g:Bool):QC C f call S o (some g)=HR C f call S o g:=rfl
def H8:List (Nat×U)->Bool->List (Nat×U)|[],_=>[]|x::l,g=>(x.1, .dV g x.2)::H8 l g
def KH(o:Oper)(g:Bool):Option bn->Option bn|some e=>if e.wr.isEmpty then some ⟨H8 e.eu g,e.rd,e.wr⟩else if g then some e else some (Ck o)|none=>if g then none else some (Ck o)
theorem adI(l:List (Nat×U))(g:Bool):H8 l g=l.map fun x=>(x.1, .dV g x.2):=by induction l with|nil=>(rfl)|cons x l ih=>simp[H8,ih]
@[simp]theorem HS(o:Oper)(g:Bool):HR C f call S o g=KH o g (bU C f call S g o):=by unfold HR KH;split<;>simp_all[adI]
@[simp]theorem anj(o:Oper)(g:Bool)(t:Nat)(v:U)(rd:List Id):KH o g (some ⟨[(t,v)],rd,[]⟩)=some ⟨[(t, .dV g v)],rd,[]⟩:=rfl
@[simp]theorem HQ{op:Op}{j:Nat}{w:Bool}{l:List Oper}:tu C f call S ⟨l⟩ ⟨d,op,ty,pos,bt,some (j,w)⟩=QC C f call S ⟨d,op,ty,pos,bt,some (j,w)⟩ (uU w S (qP l j)):=by rw[<-abP];unfold tu p8 KN;simp only;cases((⟨l⟩:Array Oper)[j]?).bind (·.dst)with|none=>(rfl)|some d=>simp only[RB];cases S.t d with|val v=>(cases v<;>rfl)|dV g x=>(cases x with|val v=>(cases v<;>cases g<;>rfl)|_=>cases g<;>rfl)|_=>rfl
@[simp]theorem aok(w:Bool)(x:U):BU w (.dV false x)=some false:=by cases x with|val v=>(cases v<;>rfl)|_=>rfl
variable{op:Op}
@[simp]theorem aql{t:Nat}(v:U):ret ⟨some t,op,ty,pos,bt,bS⟩ v=some ⟨[(t,v)],[],[]⟩:=rfl
@[simp]theorem aqb{t:Nat}(v:U)(rd:List Id)(wr:List (Id×Option Rows)):put ⟨some t,op,ty,pos,bt,bS⟩ v rd wr=⟨[(t,v)],rd,wr⟩:=rfl
@[simp]theorem aqa(v:U)(rd:List Id)(wr:List (Id×Option Rows)):put ⟨none,op,ty,pos,bt,bS⟩ v rd wr=⟨[],rd,wr⟩:=rfl
@[simp]theorem aqk(o:Oper)(v:Value):nD o (some v)=if gN v then ret o (.val v)else none:=rfl
@[simp]theorem aoX(k:IntKind)(n:Int):gN (.int k n)=true:=rfl
@[simp]theorem aoW(b:Bool):gN (.bool b)=true:=rfl
@[simp]theorem aoY(b:ByteArray):gN (.string b)=true:=rfl
@[simp]theorem anx(o:Oper)(h x y:Bool):wR o (.val (.bool h)) (.val (.bool x)) (.val (.bool y))=ret o (.val (.bool (if h then x else y))):=rfl
@[simp]theorem aqZ(v:Value):nF (.val v)=some v:=rfl
@[simp]theorem aqY(c:List U):nF (.agg c)=(j5 c).map fun vs=> .agg ⟨vs⟩:=rfl
@[simp]theorem aq1:j5 []=some []:=rfl
@[simp]theorem aq0(v:Value)(l:List U):j5 (.val v::l)=(j5 l).map (v::·):=rfl
@[simp]theorem aoV(k:IntKind)(n:Int):fA (.val (.int k n))=some n:=rfl
@[simp]theorem anv{o:Oper}{op:BinOp}{t:TypeId}{x y:Operand}{fL jB:Value}:uK C o op t x y (.val fL) (.val jB)=nD o (fE C.P op t x y fL jB):=rfl
@[simp]theorem anz{o:Oper}{op:UnOp}{fL:Value}:y9 C o op (.val fL)=nD o (GF C.P op fL):=rfl
theorem ace{o:Oper}{s t:TypeId}{fL:Value}(h:wI C s t=false):uM C o s t (.val fL)=nD o (HF C.P s t fL):=by simp[uM,h,D9]
variable{P:Program}{t:TypeId}{x y:Operand}{k:IntKind}{a b:Int}
@[simp]theorem Z0:fE P .add t x y (.int k a) (.int k b)=some (.int k (k.wrap (a+b))):=by simp[fE,eqGuard,binOp,Op.intArith,dL,bind,Sem.bind,pure]
@[simp]theorem aad:fE P .sub t x y (.int k a) (.int k b)=some (.int k (k.wrap (a-b))):=by simp[fE,eqGuard,binOp,Op.intArith,dL,bind,Sem.bind,pure]
@[simp]theorem Z8:fE P .mul t x y (.int k a) (.int k b)=some (.int k (k.wrap (a*b))):=by simp[fE,eqGuard,binOp,Op.intArith,dL,bind,Sem.bind,pure]
@[simp]theorem Z1:fE P .eql t x y (.int k a) (.int k b)=some (.bool (a==b)):=by simp[fE,eqGuard,binOp,Op.intCmp,dL,bind,Sem.bind,pure]
@[simp]theorem Z9:fE P .neq t x y (.int k a) (.int k b)=some (.bool (a !=b)):=by simp[fE,eqGuard,binOp,Op.intCmp,dL,bind,Sem.bind,pure]
@[simp]theorem Z7:fE P .lss t x y (.int k a) (.int k b)=some (.bool (decide (a<b))):=by simp[fE,eqGuard,binOp,Op.intCmp,dL,bind,Sem.bind,pure]
@[simp]theorem Z6:fE P .leq t x y (.int k a) (.int k b)=some (.bool (decide (a<=b))):=by simp[fE,eqGuard,binOp,Op.intCmp,dL,bind,Sem.bind,pure]
@[simp]theorem Z5:fE P .gtr t x y (.int k a) (.int k b)=some (.bool (decide (b<a))):=by simp[fE,eqGuard,binOp,Op.intCmp,dL,bind,Sem.bind,pure]
@[simp]theorem Z4:fE P .geq t x y (.int k a) (.int k b)=some (.bool (decide (b<=a))):=by simp[fE,eqGuard,binOp,Op.intCmp,dL,bind,Sem.bind,pure]
@[simp]theorem arB{b:Bool}:GF P .not (.bool b)=some (.bool !b):=rfl
@[simp]theorem ao1{α β:Type}(c:Prop)[Decidable c](a b:Option α)(k:α->Option β):(if c then a else b).bind k=if c then a.bind k else b.bind k:=by split<;>rfl
@[simp]theorem ao2{α β:Type}(c:Prop)[Decidable c](a b:Option α)(k:α->β):(if c then a else b).map k=if c then a.map k else b.map k:=by split<;>rfl
/-! ### Ends -/
variable{L:Id->Option (Option Rows)}{n:Nat}
@[simp]theorem apY(v:Value):pk L (n+1) (.val v)=some (.val v,[]):=rfl
@[simp]theorem apW(r:Rows):pk L (n+1) (.sl r)=some (.sl r,[]):=rfl
@[simp]theorem apZ(r:List U):pk L (n+1) (.bD r)=some (.bD r,[]):=rfl
@[simp]theorem apX:pk L (n+1) .cI=some (.own [] 0,[]):=rfl
@[simp]theorem apV:pk L (n+1) .aW=some (.aW,[]):=rfl
@[simp]theorem aoT(p:Id)(v:Value):imp p (.val v)=(.val v,[]):=rfl
@[simp]theorem aoS(p:Id)(r:Rows):imp p (.sl r)=(.sl r,[]):=rfl
@[simp]theorem aoU(p:Id)(r:List U):imp p (.bD r)=(.bD r,[]):=rfl
@[simp]theorem aoQ(p:Id):imp p .aW=(.aW,[]):=rfl
@[simp]theorem aoR(p:Id)(r:Rows)(m:Nat):imp p (.own r m)=(.rs p 0 m,[(p,some r)]):=rfl
@[simp]theorem anY:fy []=true:=rfl
@[simp]theorem anX(r:List U)(l:Rows):fy (r::l)=(dJ r&&fy l):=by simp[fy]
@[simp]theorem acH:dJ []=true:=rfl
@[simp]theorem acG(r:U)(l:List U):dJ (r::l)=(flat r&&dJ l):=by simp[dJ]
@[simp]theorem acN(v:Value):flat (.val v)=true:=by simp[flat]
@[simp]theorem acM(v:Rows):flat (.sl v)=true:=by simp[flat]
@[simp]theorem acK(v:Rows):flat (.fH v)=true:=by simp[flat]
@[simp]theorem acJ(v:Rows):flat (.im v)=true:=by simp[flat]
@[simp]theorem anZ(v:List U):flat (.bD v)=true:=by simp[flat]
@[simp]theorem acL(v:Rows)(m:Nat):flat (.own v m)=fy v:=by simp[flat]
theorem acI{α:Type}(g:α->List U)(l:List α)(h:∀x,dJ (g x)=true):fy (l.map g)=true:=by induction l with|nil=>(simp)|cons x l ih=>simp[h,ih]
theorem ajh{id:Id}{len:Nat}{rows:Rows}(h:L id=some (some rows))(hl:len<=rows.length)(hf:fy rows=true):pk L (n+1) (.rs id 0 len)=some (.own rows len,[id]):=by simp[pk,ru,h,hl,hf]
@[simp]theorem aj9(m:Nat)(t:Nat->U)(h:Id->Option (Option Rows))(slots:List Nat):kQ ⟨m,t,h⟩ slots=(k9 h t slots).bind fun x=>if ei x.2 then some x.1 else none:=by unfold kQ;dsimp only;cases k9 h t slots<;>rfl
@[simp]theorem apD(t:Nat->U):k9 L t []=some ([],[]):=rfl
@[simp]theorem aiO(t:Nat->U)(s:Nat)(l:List Nat):k9 L t (s::l)=(pk L 9 (t s)).bind fun x=>(k9 L t l).map fun y=>(x.1::y.1,x.2++y.2):=rfl
@[simp]theorem api(m:Nat)(v:List U):aO m [] v=⟨m,fun _=> .aW,fun _=>none⟩:=rfl
@[simp]theorem aph(m s:Nat)(l:List Nat)(v:U)(vs:List U):aO m (s::l) (v::vs)=⟨m,au (aO m l vs).t s (imp [s] v).1,bE (aO m l vs).h (imp [s] v).2⟩:=rfl
@[simp]theorem aqh{t:Nat}:x8 C S (.tmp t)=pk S.h 9 (un true (S.t t)):=rfl
@[simp]theorem aqj:mg C S []=some ([],[]):=rfl
@[simp]theorem aqi{r:ResultVar}{l:List ResultVar}:mg C S (r::l)=(x8 C S r).bind fun x=>(mg C S l).map fun y=>(x.1::y.1,x.2++y.2):=rfl
end
end Go.Ab
