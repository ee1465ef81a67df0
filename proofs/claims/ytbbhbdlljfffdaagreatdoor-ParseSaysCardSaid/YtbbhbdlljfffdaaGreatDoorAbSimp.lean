import Derived.Test.YtbbhbdlljfffdaaGreatDoorAbOps7
set_option linter.all false
namespace Go.Ab
open Go
abbrev I(n:Int):U:= .val (.int .i64 n)
abbrev B(b:Bool):U:= .val (.bool b)
section
variable{C:ax}{f:FuncId}{call:FuncId->List U->Option (U×List U)}{S:ah}{g:Bool}{ops:Array Oper}
variable{ρ:Type}{d:Option Tmp}{ty:TypeId}{pos:String}{aG:Array Edge}{bk:Option (Nat×Bool)}
@[simp]theorem anG{α β:Type}[DecidableEq α](f:α->β)(k j:α)(v:β):aj f k v j=if j=k then v else f j:=rfl
@[simp]theorem anF(t:Nat->U):cS t []=t:=rfl
@[simp]theorem anE(t:Nat->U)(i:Nat)(v:U)(l:List (Nat×U)):cS t ((i,v)::l)=aj (cS t l) i v:=rfl
@[simp]theorem anD(h:Id->Option (Option Rows)):aN h []=h:=rfl
@[simp]theorem anC(h:Id->Option (Option Rows))(i:Id)(v:Option Rows)(l:List (Id×Option Rows)):aN h ((i,v)::l)=aj (aN h l) i (some v):=rfl
@[simp]theorem aiS(n:Nat)(t:Nat->U)(h:Id->Option (Option Rows))(dj:List (Nat×U))(rd:List Id)(wr:List (Id×Option Rows)):ah.app ⟨n,t,h⟩ ⟨dj,rd,wr⟩=⟨n,cS t dj,aN h wr⟩:=rfl
/-! ### Operands, guards -/
@[simp]theorem akm(t:Nat):S.get C (.tmp t)=S.t t:=rfl
@[simp]theorem akg(k:IntKind)(n:Int):S.get C (.const (.int k n))= .val (.int k n):=rfl
@[simp]theorem akd(b:Bool):S.get C (.const (.bool b))= .val (.bool b):=rfl
@[simp]theorem akl(s:ByteArray):S.get C (.const (.string s))= .val (.string s):=rfl
@[simp]theorem akj:S.get C (.const (.pointer none))= .val (.pointer none):=rfl
@[simp]theorem akk:S.get C (.const (.slice none 0 0))= .bW:=rfl
@[simp]theorem aki:S.get C (.const .nilIface)= .val .nilIface:=rfl
@[simp]theorem akh:S.get C (.const .nilFunc)= .val .nilFunc:=rfl
@[simp]theorem ake(k:FuncId):S.get C (.func k)= .fn (.func k) [] []:=rfl
@[simp]theorem akf(k:Nat):S.get C (.global k)=match C.bS k with|some cs=> .aP cs|none=> .aF:=rfl
@[simp]theorem anw(v:Value):un g (.val v)= .val v:=rfl
@[simp]theorem anr(r:Rows):un g (.sl r)= .sl r:=rfl
@[simp]theorem anx(c:List U):un g (.aP c)= .aP c:=rfl
@[simp]theorem ans:un g .bW= .bW:=rfl
@[simp]theorem anq(i:Id)(a b:Nat):un g (.rs i a b)= .rs i a b:=rfl
@[simp]theorem ann(i:Id)(a b:Nat):un g (.mp i a b)= .mp i a b:=rfl
@[simp]theorem ang(k:Fn)(a b:List U):un g (.fn k a b)= .fn k a b:=rfl
@[simp]theorem ana(c:List U):un g (.agg c)= .agg c:=rfl
@[simp]theorem anv(c:List U):un g (.aI c)= .aI c:=rfl
@[simp]theorem anh:un g .aF= .aF:=rfl
@[simp]theorem anp(r:Rows)(m:Nat):un g (.own r m)= .own r m:=rfl
@[simp]theorem Sx(x:U):un g (.c6 g x)=x:=by cases g<;>rfl
@[simp]theorem anu(x:U):un g (.c6 true x)=x:=by cases g<;>rfl
@[simp]theorem anb(h:Bool)(x:U):un (g&&h) (.c6 g x)=x:=by cases g<;>cases h<;>rfl
@[simp]theorem anc(h:Bool)(x:U):un (g&&h) (.c6 (g&&h) x)=x:=Sx x
@[simp]theorem ane(h:Bool)(x:U):un (g&&h) (.c6 h x)=x:=by cases g<;>cases h<;>rfl
@[simp]theorem anf(h k:Bool)(x:U):un (g&&h&&k) (.c6 g x)=x:=by cases g<;>cases h<;>cases k<;>rfl
@[simp]theorem aiW(b:Bool):mC (.val (.bool b))=b:=rfl
@[simp]theorem ajH{op:Op}:q5 C f call S ops ⟨d,op,ty,pos,aG,none⟩=bp C f call S true ⟨d,op,ty,pos,aG,none⟩:=rfl
def E1(C:ax)(f:FuncId)(call:FuncId->List U->Option (U×List U))(S:ah)(o:Oper)(g:Bool):Option aJ:=match bp C f call S g o with|some e=>if e.wr.isEmpty then some {e with dj:=e.dj.map fun x=>(x.1, .c6 g x.2)}else if g then some e else some (zZ o)|none=>if g then none else some (zZ o)
def zn(want:Bool):U->Option Bool| .val (.bool b)=>some (b==want)| .c6 g (.val (.bool b))=>some (g&&(b==want))| .c6 false _=>some false|_=>none
@[simp]theorem akr(w b:Bool):zn w (.val (.bool b))=some (b==w):=rfl
@[simp]theorem akp(w b g:Bool):zn w (.c6 g (.val (.bool b)))=some (g&&(b==w)):=rfl
def sU(w:Bool)(S:ah):Option Nat->Option Bool|some d=>zn w (S.t d)|none=>none
@[simp]theorem Ol(w:Bool)(d:Nat):sU w S (some d)=zn w (S.t d):=rfl
def HQ(ops:Array Oper)(j:Nat):Option Nat:=(ops[j]?).bind (·.dst)
def oX:List Oper->Nat->Option Nat|[],_=>none|o::_,0=>o.dst|_::l,j+1=>oX l j
theorem XY(l:List Oper)(j:Nat):HQ ⟨l⟩ j=oX l j:=by unfold HQ;simp only[List.getElem?_toArray];induction l generalizing j with|nil=>(simp[oX])|cons o l ih=>cases j with|zero=>(simp[oX])|succ j=>simpa[oX]using ih j
def Nf(C:ax)(f:FuncId)(call:FuncId->List U->Option (U×List U))(S:ah)(o:Oper):Option Bool->Option aJ|some g=>E1 C f call S o g|none=>none
@[simp]theorem EN(o:Oper)(g:Bool):Nf C f call S o (some g)=E1 C f call S o g:=rfl
def Fc:List (Nat×U)->Bool->List (Nat×U)|[],_=>[]|x::l,g=>(x.1, .c6 g x.2)::Fc l g
def HI(o:Oper)(g:Bool):Option aJ->Option aJ|some e=>if e.wr.isEmpty then some ⟨Fc e.dj g,e.rd,e.wr⟩else if g then some e else some (zZ o)|none=>if g then none else some (zZ o)
theorem ZF(l:List (Nat×U))(g:Bool):Fc l g=l.map fun x=>(x.1, .c6 g x.2):=by induction l with|nil=>(rfl)|cons x l ih=>simp[Fc,ih]
@[simp]theorem E2(o:Oper)(g:Bool):E1 C f call S o g=HI o g (bp C f call S g o):=by unfold E1 HI;split<;>simp_all[ZF]
@[simp]theorem ajs(o:Oper)(g:Bool)(t:Nat)(v:U)(rd:List Id):HI o g (some ⟨[(t,v)],rd,[]⟩)=some ⟨[(t, .c6 g v)],rd,[]⟩:=rfl
@[simp]theorem E0{op:Op}{j:Nat}{w:Bool}{l:List Oper}:q5 C f call S ⟨l⟩ ⟨d,op,ty,pos,aG,some (j,w)⟩=Nf C f call S ⟨d,op,ty,pos,aG,some (j,w)⟩ (sU w S (oX l j)):=by rw[<-XY];unfold q5 n9 HQ;simp only;cases((⟨l⟩:Array Oper)[j]?).bind (·.dst)with|none=>(rfl)|some d=>simp only[Ol];cases S.t d with|val v=>(cases v<;>rfl)|c6 g x=>(cases x with|val v=>(cases v<;>cases g<;>rfl)|_=>cases g<;>rfl)|_=>rfl
@[simp]theorem akq(w:Bool)(x:U):zn w (.c6 false x)=some false:=by cases x with|val v=>(cases v<;>rfl)|_=>rfl
variable{op:Op}
@[simp]theorem al9{t:Nat}(v:U):ret ⟨some t,op,ty,pos,aG,bk⟩ v=some ⟨[(t,v)],[],[]⟩:=rfl
@[simp]theorem al0{t:Nat}(v:U)(rd:List Id)(wr:List (Id×Option Rows)):put ⟨some t,op,ty,pos,aG,bk⟩ v rd wr=⟨[(t,v)],rd,wr⟩:=rfl
@[simp]theorem alZ(v:U)(rd:List Id)(wr:List (Id×Option Rows)):put ⟨none,op,ty,pos,aG,bk⟩ v rd wr=⟨[],rd,wr⟩:=rfl
@[simp]theorem al8(o:Oper)(v:Value):lI o (some v)=if dN v then ret o (.val v)else none:=rfl
@[simp]theorem ak1(k:IntKind)(n:Int):dN (.int k n)=true:=rfl
@[simp]theorem ak0(b:Bool):dN (.bool b)=true:=rfl
@[simp]theorem ak2(b:ByteArray):dN (.string b)=true:=rfl
@[simp]theorem ajI(o:Oper)(h x y:Bool):uH o (.val (.bool h)) (.val (.bool x)) (.val (.bool y))=ret o (.val (.bool (if h then x else y))):=rfl
@[simp]theorem amO(v:Value):lM (.val v)=some v:=rfl
@[simp]theorem amN(c:List U):lM (.agg c)=(iC c).map fun vs=> .agg ⟨vs⟩:=rfl
@[simp]theorem amQ:iC []=some []:=rfl
@[simp]theorem amP(v:Value)(l:List U):iC (.val v::l)=(iC l).map (v::·):=rfl
@[simp]theorem akZ(k:IntKind)(n:Int):ek (.val (.int k n))=some n:=rfl
@[simp]theorem ajG{o:Oper}{op:BinOp}{t:TypeId}{x y:Operand}{eD gS:Value}:sK C o op t x y (.val eD) (.val gS)=lI o (er C.P op t x y eD gS):=rfl
@[simp]theorem ajJ{o:Oper}{op:UnOp}{eD:Value}:wk C o op (.val eD)=lI o (D1 C.P op eD):=rfl
theorem Yk{o:Oper}{s t:TypeId}{eD:Value}(h:uz C s t=false):sM C o s t (.val eD)=lI o (EO C.P s t eD):=by simp[sM,h,BE]
variable{P:Program}{t:TypeId}{x y:Operand}{k:IntKind}{a b:Int}
@[simp]theorem Wf:er P .add t x y (.int k a) (.int k b)=some (.int k (k.wrap (a+b))):=by simp[er,eqGuard,binOp,Op.intArith,cQ,bind,Sem.bind,pure]
@[simp]theorem Ws:er P .sub t x y (.int k a) (.int k b)=some (.int k (k.wrap (a-b))):=by simp[er,eqGuard,binOp,Op.intArith,cQ,bind,Sem.bind,pure]
@[simp]theorem Wn:er P .mul t x y (.int k a) (.int k b)=some (.int k (k.wrap (a*b))):=by simp[er,eqGuard,binOp,Op.intArith,cQ,bind,Sem.bind,pure]
@[simp]theorem Wg:er P .eql t x y (.int k a) (.int k b)=some (.bool (a==b)):=by simp[er,eqGuard,binOp,Op.intCmp,cQ,bind,Sem.bind,pure]
@[simp]theorem Wo:er P .neq t x y (.int k a) (.int k b)=some (.bool (a !=b)):=by simp[er,eqGuard,binOp,Op.intCmp,cQ,bind,Sem.bind,pure]
@[simp]theorem Wm:er P .lss t x y (.int k a) (.int k b)=some (.bool (decide (a<b))):=by simp[er,eqGuard,binOp,Op.intCmp,cQ,bind,Sem.bind,pure]
@[simp]theorem Wl:er P .leq t x y (.int k a) (.int k b)=some (.bool (decide (a<=b))):=by simp[er,eqGuard,binOp,Op.intCmp,cQ,bind,Sem.bind,pure]
@[simp]theorem Wk:er P .gtr t x y (.int k a) (.int k b)=some (.bool (decide (b<a))):=by simp[er,eqGuard,binOp,Op.intCmp,cQ,bind,Sem.bind,pure]
@[simp]theorem Wj:er P .geq t x y (.int k a) (.int k b)=some (.bool (decide (b<=a))):=by simp[er,eqGuard,binOp,Op.intCmp,cQ,bind,Sem.bind,pure]
@[simp]theorem ano{b:Bool}:D1 P .not (.bool b)=some (.bool !b):=rfl
@[simp]theorem ak5{α β:Type}(c:Prop)[Decidable c](a b:Option α)(k:α->Option β):(if c then a else b).bind k=if c then a.bind k else b.bind k:=by split<;>rfl
@[simp]theorem ak6{α β:Type}(c:Prop)[Decidable c](a b:Option α)(k:α->β):(if c then a else b).map k=if c then a.map k else b.map k:=by split<;>rfl
/-! ### Ends -/
variable{L:Id->Option (Option Rows)}{n:Nat}
@[simp]theorem alN(v:Value):pk L (n+1) (.val v)=some (.val v,[]):=rfl
@[simp]theorem alL(r:Rows):pk L (n+1) (.sl r)=some (.sl r,[]):=rfl
@[simp]theorem alO(r:List U):pk L (n+1) (.aP r)=some (.aP r,[]):=rfl
@[simp]theorem alM:pk L (n+1) .bW=some (.own [] 0,[]):=rfl
@[simp]theorem alK:pk L (n+1) .aF=some (.aF,[]):=rfl
@[simp]theorem akX(p:Id)(v:Value):imp p (.val v)=(.val v,[]):=rfl
@[simp]theorem akW(p:Id)(r:Rows):imp p (.sl r)=(.sl r,[]):=rfl
@[simp]theorem akY(p:Id)(r:List U):imp p (.aP r)=(.aP r,[]):=rfl
@[simp]theorem akU(p:Id):imp p .aF=(.aF,[]):=rfl
@[simp]theorem akV(p:Id)(r:Rows)(m:Nat):imp p (.own r m)=(.rs p 0 m,[(p,some r)]):=rfl
@[simp]theorem aj9:eB []=true:=rfl
@[simp]theorem aj8(r:List U)(l:Rows):eB (r::l)=(cT r&&eB l):=by simp[eB]
@[simp]theorem YL:cT []=true:=rfl
@[simp]theorem YK(r:U)(l:List U):cT (r::l)=(flat r&&cT l):=by simp[cT]
@[simp]theorem YR(v:Value):flat (.val v)=true:=by simp[flat]
@[simp]theorem YQ(v:Rows):flat (.sl v)=true:=by simp[flat]
@[simp]theorem YO(v:Rows):flat (.ey v)=true:=by simp[flat]
@[simp]theorem YN(v:Rows):flat (.im v)=true:=by simp[flat]
@[simp]theorem aka(v:List U):flat (.aP v)=true:=by simp[flat]
@[simp]theorem YP(v:Rows)(m:Nat):flat (.own v m)=eB v:=by simp[flat]
theorem YM{α:Type}(g:α->List U)(l:List α)(h:∀x,cT (g x)=true):eB (l.map g)=true:=by induction l with|nil=>(simp)|cons x l ih=>simp[h,ih]
theorem afz{id:Id}{len:Nat}{rows:Rows}(h:L id=some (some rows))(hl:len<=rows.length)(hf:eB rows=true):pk L (n+1) (.rs id 0 len)=some (.own rows len,[id]):=by simp[pk,pL,h,hl,hf]
@[simp]theorem ags(m:Nat)(t:Nat->U)(h:Id->Option (Option Rows))(slots:List Nat):jd ⟨m,t,h⟩ slots=(jC h t slots).bind fun x=>if dm x.2 then some x.1 else none:=by unfold jd;dsimp only;cases jC h t slots<;>rfl
@[simp]theorem alr(t:Nat->U):jC L t []=some ([],[]):=rfl
@[simp]theorem afc(t:Nat->U)(s:Nat)(l:List Nat):jC L t (s::l)=(pk L 9 (t s)).bind fun x=>(jC L t l).map fun y=>(x.1::y.1,x.2++y.2):=rfl
@[simp]theorem alm(m:Nat)(v:List U):aA m [] v=⟨m,fun _=> .aF,fun _=>none⟩:=rfl
@[simp]theorem alk(m s:Nat)(l:List Nat)(v:U)(vs:List U):aA m (s::l) (v::vs)=⟨m,aj (aA m l vs).t s (imp [s] v).1,aN (aA m l vs).h (imp [s] v).2⟩:=rfl
@[simp]theorem al5{t:Nat}:vt C S (.tmp t)=pk S.h 9 (un true (S.t t)):=rfl
@[simp]theorem al7:kA C S []=some ([],[]):=rfl
@[simp]theorem al6{r:ResultVar}{l:List ResultVar}:kA C S (r::l)=(vt C S r).bind fun x=>(kA C S l).map fun y=>(x.1::y.1,x.2++y.2):=rfl
end
end Go.Ab
