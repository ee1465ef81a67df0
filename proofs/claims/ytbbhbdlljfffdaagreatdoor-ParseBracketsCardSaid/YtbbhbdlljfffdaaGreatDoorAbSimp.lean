import Derived.Test.YtbbhbdlljfffdaaGreatDoorAbOps7
set_option linter.all false
namespace Go.Ab
open Go
abbrev I(n:Int):U:= .val (.int .i64 n)
abbrev B(b:Bool):U:= .val (.bool b)
section
variable{C:aE}{f:FuncId}{call:FuncId->List U->Option (U×List U)}{S:ai}{g:Bool}{ops:Array Oper}
variable{ρ:Type}{d:Option Tmp}{ty:TypeId}{pos:String}{bg:Array Edge}{bM:Option (Nat×Bool)}
@[simp]theorem auz{α β:Type}[DecidableEq α](f:α->β)(k j:α)(v:β):au f k v j=if j=k then v else f j:=rfl
@[simp]theorem auy(t:Nat->U):dL t []=t:=rfl
@[simp]theorem auw(t:Nat->U)(i:Nat)(v:U)(l:List (Nat×U)):dL t ((i,v)::l)=au (dL t l) i v:=rfl
@[simp]theorem auv(h:Id->Option (Option Rows)):bl h []=h:=rfl
@[simp]theorem auu(h:Id->Option (Option Rows))(i:Id)(v:Option Rows)(l:List (Id×Option Rows)):bl h ((i,v)::l)=au (bl h l) i (some v):=rfl
@[simp]theorem apw(n:Nat)(t:Nat->U)(h:Id->Option (Option Rows))(ei:List (Nat×U))(rd:List Id)(wr:List (Id×Option Rows)):ai.app ⟨n,t,h⟩ ⟨ei,rd,wr⟩=⟨n,dL t ei,bl h wr⟩:=rfl
/-! ### Operands, guards -/
@[simp]theorem aqV(t:Nat):S.get C (.tmp t)=S.t t:=rfl
@[simp]theorem aqP(k:IntKind)(n:Int):S.get C (.const (.int k n))= .val (.int k n):=rfl
@[simp]theorem aqM(b:Bool):S.get C (.const (.bool b))= .val (.bool b):=rfl
@[simp]theorem aqU(s:ByteArray):S.get C (.const (.string s))= .val (.string s):=rfl
@[simp]theorem aqS:S.get C (.const (.pointer none))= .val (.pointer none):=rfl
@[simp]theorem aqT:S.get C (.const (.slice none 0 0))= .cB:=rfl
@[simp]theorem aqR:S.get C (.const .nilIface)= .val .nilIface:=rfl
@[simp]theorem aqQ:S.get C (.const .nilFunc)= .val .nilFunc:=rfl
@[simp]theorem aqN(k:FuncId):S.get C (.func k)= .fn (.func k) [] []:=rfl
@[simp]theorem aqO(k:Nat):S.get C (.global k)=match C.eA k with|some cs=> .bx cs|none=> .aU:=rfl
@[simp]theorem aup(v:Value):un g (.val v)= .val v:=rfl
@[simp]theorem auk(r:Rows):un g (.sl r)= .sl r:=rfl
@[simp]theorem auq(c:List U):un g (.bx c)= .bx c:=rfl
@[simp]theorem aul:un g .cB= .cB:=rfl
@[simp]theorem auj(i:Id)(a b:Nat):un g (.rs i a b)= .rs i a b:=rfl
@[simp]theorem auf(i:Id)(a b:Nat):un g (.mp i a b)= .mp i a b:=rfl
@[simp]theorem at6(k:Fn)(a b:List U):un g (.fn k a b)= .fn k a b:=rfl
@[simp]theorem at1(c:List U):un g (.agg c)= .agg c:=rfl
@[simp]theorem auo(c:List U):un g (.aI c)= .aI c:=rfl
@[simp]theorem at7:un g .aU= .aU:=rfl
@[simp]theorem auh(r:Rows)(m:Nat):un g (.own r m)= .own r m:=rfl
@[simp]theorem XT(x:U):un g (.dR g x)=x:=by cases g<;>rfl
@[simp]theorem aun(x:U):un g (.dR true x)=x:=by cases g<;>rfl
@[simp]theorem at2(h:Bool)(x:U):un (g&&h) (.dR g x)=x:=by cases g<;>cases h<;>rfl
@[simp]theorem at3(h:Bool)(x:U):un (g&&h) (.dR (g&&h) x)=x:=XT x
@[simp]theorem at4(h:Bool)(x:U):un (g&&h) (.dR h x)=x:=by cases g<;>cases h<;>rfl
@[simp]theorem at5(h k:Bool)(x:U):un (g&&h&&k) (.dR g x)=x:=by cases g<;>cases h<;>cases k<;>rfl
@[simp]theorem apA(b:Bool):ou (.val (.bool b))=b:=rfl
@[simp]theorem aqf{op:Op}:tS C f call S ops ⟨d,op,ty,pos,bg,none⟩=bP C f call S true ⟨d,op,ty,pos,bg,none⟩:=rfl
def IQ(C:aE)(f:FuncId)(call:FuncId->List U->Option (U×List U))(S:ai)(o:Oper)(g:Bool):Option aZ:=match bP C f call S g o with|some e=>if e.wr.isEmpty then some {e with ei:=e.ei.map fun x=>(x.1, .dR g x.2)}else if g then some e else some (Cu o)|none=>if g then none else some (Cu o)
def B1(want:Bool):U->Option Bool| .val (.bool b)=>some (b==want)| .dR g (.val (.bool b))=>some (g&&(b==want))| .dR false _=>some false|_=>none
@[simp]theorem aqZ(w b:Bool):B1 w (.val (.bool b))=some (b==w):=rfl
@[simp]theorem aqX(w b g:Bool):B1 w (.dR g (.val (.bool b)))=some (g&&(b==w)):=rfl
def vz(w:Bool)(S:ai):Option Nat->Option Bool|some d=>B1 w (S.t d)|none=>none
@[simp]theorem TF(w:Bool)(d:Nat):vz w S (some d)=B1 w (S.t d):=rfl
def LY(ops:Array Oper)(j:Nat):Option Nat:=(ops[j]?).bind (·.dst)
def q2:List Oper->Nat->Option Nat|[],_=>none|o::_,0=>o.dst|_::l,j+1=>q2 l j
theorem ad3(l:List Oper)(j:Nat):LY ⟨l⟩ j=q2 l j:=by unfold LY;simp only[List.getElem?_toArray];induction l generalizing j with|nil=>(simp[q2])|cons o l ih=>cases j with|zero=>(simp[q2])|succ j=>simpa[q2]using ih j
def Su(C:aE)(f:FuncId)(call:FuncId->List U->Option (U×List U))(S:ai)(o:Oper):Option Bool->Option aZ|some g=>IQ C f call S o g|none=>none
@[simp]theorem Iy(o:Oper)(g:Bool):Su C f call S o (some g)=IQ C f call S o g:=rfl
def I2:List (Nat×U)->Bool->List (Nat×U)|[],_=>[]|x::l,g=>(x.1, .dR g x.2)::I2 l g
def LR(o:Oper)(g:Bool):Option aZ->Option aZ|some e=>if e.wr.isEmpty then some ⟨I2 e.ei g,e.rd,e.wr⟩else if g then some e else some (Cu o)|none=>if g then none else some (Cu o)
theorem afZ(l:List (Nat×U))(g:Bool):I2 l g=l.map fun x=>(x.1, .dR g x.2):=by induction l with|nil=>(rfl)|cons x l ih=>simp[I2,ih]
@[simp]theorem IS(o:Oper)(g:Bool):IQ C f call S o g=LR o g (bP C f call S g o):=by unfold IQ LR;split<;>simp_all[afZ]
@[simp]theorem ap3(o:Oper)(g:Bool)(t:Nat)(v:U)(rd:List Id):LR o g (some ⟨[(t,v)],rd,[]⟩)=some ⟨[(t, .dR g v)],rd,[]⟩:=rfl
@[simp]theorem IP{op:Op}{j:Nat}{w:Bool}{l:List Oper}:tS C f call S ⟨l⟩ ⟨d,op,ty,pos,bg,some (j,w)⟩=Su C f call S ⟨d,op,ty,pos,bg,some (j,w)⟩ (vz w S (q2 l j)):=by rw[<-ad3];unfold tS ql LY;simp only;cases((⟨l⟩:Array Oper)[j]?).bind (·.dst)with|none=>(rfl)|some d=>simp only[TF];cases S.t d with|val v=>(cases v<;>rfl)|dR g x=>(cases x with|val v=>(cases v<;>cases g<;>rfl)|_=>cases g<;>rfl)|_=>rfl
@[simp]theorem aqY(w:Bool)(x:U):B1 w (.dR false x)=some false:=by cases x with|val v=>(cases v<;>rfl)|_=>rfl
variable{op:Op}
@[simp]theorem as3{t:Nat}(v:U):ret ⟨some t,op,ty,pos,bg,bM⟩ v=some ⟨[(t,v)],[],[]⟩:=rfl
@[simp]theorem asV{t:Nat}(v:U)(rd:List Id)(wr:List (Id×Option Rows)):put ⟨some t,op,ty,pos,bg,bM⟩ v rd wr=⟨[(t,v)],rd,wr⟩:=rfl
@[simp]theorem asU(v:U)(rd:List Id)(wr:List (Id×Option Rows)):put ⟨none,op,ty,pos,bg,bM⟩ v rd wr=⟨[],rd,wr⟩:=rfl
@[simp]theorem as2(o:Oper)(v:Value):nA o (some v)=if eS v then ret o (.val v)else none:=rfl
@[simp]theorem arD(k:IntKind)(n:Int):eS (.int k n)=true:=rfl
@[simp]theorem arC(b:Bool):eS (.bool b)=true:=rfl
@[simp]theorem arE(b:ByteArray):eS (.string b)=true:=rfl
@[simp]theorem aqg(o:Oper)(h x y:Bool):xm o (.val (.bool h)) (.val (.bool x)) (.val (.bool y))=ret o (.val (.bool (if h then x else y))):=rfl
@[simp]theorem atF(v:Value):nE (.val v)=some v:=rfl
@[simp]theorem atE(c:List U):nE (.agg c)=(jL c).map fun vs=> .agg ⟨vs⟩:=rfl
@[simp]theorem atH:jL []=some []:=rfl
@[simp]theorem atG(v:Value)(l:List U):jL (.val v::l)=(jL l).map (v::·):=rfl
@[simp]theorem arB(k:IntKind)(n:Int):e5 (.val (.int k n))=some n:=rfl
@[simp]theorem aqe{o:Oper}{op:BinOp}{t:TypeId}{x y:Operand}{fq jt:Value}:vl C o op t x y (.val fq) (.val jt)=nA o (fm C.P op t x y fq jt):=rfl
@[simp]theorem aqh{o:Oper}{op:UnOp}{fq:Value}:zu C o op (.val fq)=nA o (Hv C.P op fq):=rfl
theorem aep{o:Oper}{s t:TypeId}{fq:Value}(h:w9 C s t=false):vn C o s t (.val fq)=nA o (Iz C.P s t fq):=by simp[vn,h,ED]
variable{P:Program}{t:TypeId}{x y:Operand}{k:IntKind}{a b:Int}
@[simp]theorem ab1:fm P .add t x y (.int k a) (.int k b)=some (.int k (k.wrap (a+b))):=by simp[fm,eqGuard,binOp,Op.intArith,dG,bind,Sem.bind,pure]
@[simp]theorem ach:fm P .sub t x y (.int k a) (.int k b)=some (.int k (k.wrap (a-b))):=by simp[fm,eqGuard,binOp,Op.intArith,dG,bind,Sem.bind,pure]
@[simp]theorem ab9:fm P .mul t x y (.int k a) (.int k b)=some (.int k (k.wrap (a*b))):=by simp[fm,eqGuard,binOp,Op.intArith,dG,bind,Sem.bind,pure]
@[simp]theorem ab3:fm P .eql t x y (.int k a) (.int k b)=some (.bool (a==b)):=by simp[fm,eqGuard,binOp,Op.intCmp,dG,bind,Sem.bind,pure]
@[simp]theorem acd:fm P .neq t x y (.int k a) (.int k b)=some (.bool (a !=b)):=by simp[fm,eqGuard,binOp,Op.intCmp,dG,bind,Sem.bind,pure]
@[simp]theorem ab8:fm P .lss t x y (.int k a) (.int k b)=some (.bool (decide (a<b))):=by simp[fm,eqGuard,binOp,Op.intCmp,dG,bind,Sem.bind,pure]
@[simp]theorem ab7:fm P .leq t x y (.int k a) (.int k b)=some (.bool (decide (a<=b))):=by simp[fm,eqGuard,binOp,Op.intCmp,dG,bind,Sem.bind,pure]
@[simp]theorem ab6:fm P .gtr t x y (.int k a) (.int k b)=some (.bool (decide (b<a))):=by simp[fm,eqGuard,binOp,Op.intCmp,dG,bind,Sem.bind,pure]
@[simp]theorem ab5:fm P .geq t x y (.int k a) (.int k b)=some (.bool (decide (b<=a))):=by simp[fm,eqGuard,binOp,Op.intCmp,dG,bind,Sem.bind,pure]
@[simp]theorem aug{b:Bool}:Hv P .not (.bool b)=some (.bool !b):=rfl
@[simp]theorem arH{α β:Type}(c:Prop)[Decidable c](a b:Option α)(k:α->Option β):(if c then a else b).bind k=if c then a.bind k else b.bind k:=by split<;>rfl
@[simp]theorem arI{α β:Type}(c:Prop)[Decidable c](a b:Option α)(k:α->β):(if c then a else b).map k=if c then a.map k else b.map k:=by split<;>rfl
/-! ### Ends -/
variable{L:Id->Option (Option Rows)}{n:Nat}
@[simp]theorem asH(v:Value):pk L (n+1) (.val v)=some (.val v,[]):=rfl
@[simp]theorem asF(r:Rows):pk L (n+1) (.sl r)=some (.sl r,[]):=rfl
@[simp]theorem asI(r:List U):pk L (n+1) (.bx r)=some (.bx r,[]):=rfl
@[simp]theorem asG:pk L (n+1) .cB=some (.own [] 0,[]):=rfl
@[simp]theorem asE:pk L (n+1) .aU=some (.aU,[]):=rfl
@[simp]theorem arz(p:Id)(v:Value):imp p (.val v)=(.val v,[]):=rfl
@[simp]theorem ary(p:Id)(r:Rows):imp p (.sl r)=(.sl r,[]):=rfl
@[simp]theorem arA(p:Id)(r:List U):imp p (.bx r)=(.bx r,[]):=rfl
@[simp]theorem arw(p:Id):imp p .aU=(.aU,[]):=rfl
@[simp]theorem arx(p:Id)(r:Rows)(m:Nat):imp p (.own r m)=(.rs p 0 m,[(p,some r)]):=rfl
@[simp]theorem aqE:e4 []=true:=rfl
@[simp]theorem aqD(r:List U)(l:Rows):e4 (r::l)=(dF r&&e4 l):=by simp[e4]
@[simp]theorem aeU:dF []=true:=rfl
@[simp]theorem aeT(r:U)(l:List U):dF (r::l)=(flat r&&dF l):=by simp[dF]
@[simp]theorem ae0(v:Value):flat (.val v)=true:=by simp[flat]
@[simp]theorem aeZ(v:Rows):flat (.sl v)=true:=by simp[flat]
@[simp]theorem aeX(v:Rows):flat (.fh v)=true:=by simp[flat]
@[simp]theorem aeW(v:Rows):flat (.im v)=true:=by simp[flat]
@[simp]theorem aqF(v:List U):flat (.bx v)=true:=by simp[flat]
@[simp]theorem aeY(v:Rows)(m:Nat):flat (.own v m)=e4 v:=by simp[flat]
theorem aeV{α:Type}(g:α->List U)(l:List α)(h:∀x,dF (g x)=true):e4 (l.map g)=true:=by induction l with|nil=>(simp)|cons x l ih=>simp[h,ih]
theorem alS{id:Id}{len:Nat}{rows:Rows}(h:L id=some (some rows))(hl:len<=rows.length)(hf:e4 rows=true):pk L (n+1) (.rs id 0 len)=some (.own rows len,[id]):=by simp[pk,rM,h,hl,hf]
@[simp]theorem amF(m:Nat)(t:Nat->U)(h:Id->Option (Option Rows))(slots:List Nat):kB ⟨m,t,h⟩ slots=(kX h t slots).bind fun x=>if dV x.2 then some x.1 else none:=by unfold kB;dsimp only;cases kX h t slots<;>rfl
@[simp]theorem asm(t:Nat->U):kX L t []=some ([],[]):=rfl
@[simp]theorem aln(t:Nat->U)(s:Nat)(l:List Nat):kX L t (s::l)=(pk L 9 (t s)).bind fun x=>(kX L t l).map fun y=>(x.1::y.1,x.2++y.2):=rfl
@[simp]theorem arZ(m:Nat)(v:List U):bq m [] v=⟨m,fun _=> .aU,fun _=>none⟩:=rfl
@[simp]theorem arY(m s:Nat)(l:List Nat)(v:U)(vs:List U):bq m (s::l) (v::vs)=⟨m,au (bq m l vs).t s (imp [s] v).1,bl (bq m l vs).h (imp [s] v).2⟩:=rfl
@[simp]theorem asZ{t:Nat}:yz C S (.tmp t)=pk S.h 9 (un true (S.t t)):=rfl
@[simp]theorem as1:me C S []=some ([],[]):=rfl
@[simp]theorem as0{r:ResultVar}{l:List ResultVar}:me C S (r::l)=(yz C S r).bind fun x=>(me C S l).map fun y=>(x.1::y.1,x.2++y.2):=rfl
end
end Go.Ab
