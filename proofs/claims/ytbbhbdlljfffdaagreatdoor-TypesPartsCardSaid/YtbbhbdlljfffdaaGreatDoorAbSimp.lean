import Derived.Test.YtbbhbdlljfffdaaGreatDoorAbBase
set_option linter.all false
namespace Go.Ab
open Go
abbrev I(n:Int):U:= .val (.int .i64 n)
abbrev B(b:Bool):U:= .val (.bool b)
section
variable{C:aF}{f:FuncId}{call:FuncId→List U→Option (U×List U)}{S:ah}{g:Bool}{ops:Array Oper}
variable{ρ:Type}{d:Option Tmp}{ty:TypeId}{pos:String}{aV:Array Edge}{bD:Option (Nat×Bool)}
@[simp]theorem aoj{α β:Type}[DecidableEq α](f:α→β)(k j:α)(v:β):ak f k v j=if j=k then v else f j:=rfl
@[simp]theorem aoi(t:Nat→U):cT t []=t:=rfl
@[simp]theorem aoh(t:Nat→U)(i:Nat)(v:U)(l:List (Nat×U)):cT t ((i,v)::l)=ak (cT t l) i v:=rfl
@[simp]theorem aog(h:Id→Option (Option Rows)):bk h []=h:=rfl
@[simp]theorem aof(h:Id→Option (Option Rows))(i:Id)(v:Option Rows)(l:List (Id×Option Rows)):bk h ((i,v)::l)=ak (bk h l) i (some v):=rfl
@[simp]theorem ajT(n:Nat)(t:Nat→U)(h:Id→Option (Option Rows))(dA:List (Nat×U))(rd:List Id)(wr:List (Id×Option Rows)):ah.app ⟨n,t,h⟩ ⟨dA,rd,wr⟩=⟨n,cT t dA,bk h wr⟩:=rfl
/-! ### Operands, guards -/
@[simp]theorem ak8(t:Nat):S.get C (.tmp t)=S.t t:=rfl
@[simp]theorem ak2(k:IntKind)(n:Int):S.get C (.const (.int k n))= .val (.int k n):=rfl
@[simp]theorem akZ(b:Bool):S.get C (.const (.bool b))= .val (.bool b):=rfl
@[simp]theorem ak7(s:ByteArray):S.get C (.const (.string s))= .val (.string s):=rfl
@[simp]theorem ak5:S.get C (.const (.pointer none))= .val (.pointer none):=rfl
@[simp]theorem ak6:S.get C (.const (.slice none 0 0))= .cu:=rfl
@[simp]theorem ak4:S.get C (.const .nilIface)= .val .nilIface:=rfl
@[simp]theorem ak3:S.get C (.const .nilFunc)= .val .nilFunc:=rfl
@[simp]theorem ak0(k:FuncId):S.get C (.func k)= .fn (.func k) [] []:=rfl
@[simp]theorem ak1(k:Nat):S.get C (.global k)=match C.cw k with|some cs=> .aI cs|none=> .bp:=rfl
@[simp]theorem aob(v:Value):un g (.val v)= .val v:=rfl
@[simp]theorem an6(r:Rows):un g (.sl r)= .sl r:=rfl
@[simp]theorem aoc(c:List U):un g (.aI c)= .aI c:=rfl
@[simp]theorem an7:un g .cu= .cu:=rfl
@[simp]theorem an5(i:Id)(a b:Nat):un g (.rs i a b)= .rs i a b:=rfl
@[simp]theorem an2(i:Id)(a b:Nat):un g (.mp i a b)= .mp i a b:=rfl
@[simp]theorem anV(k:Fn)(a b:List U):un g (.fn k a b)= .fn k a b:=rfl
@[simp]theorem anQ(c:List U):un g (.agg c)= .agg c:=rfl
@[simp]theorem aoa(c:List U):un g (.aT c)= .aT c:=rfl
@[simp]theorem anW:un g .bp= .bp:=rfl
@[simp]theorem an4(r:Rows)(m:Nat):un g (.own r m)= .own r m:=rfl
@[simp]theorem Tw(x:U):un g (.c8 g x)=x:=by cases g<;>rfl
@[simp]theorem an9(x:U):un g (.c8 true x)=x:=by cases g<;>rfl
@[simp]theorem anR(h:Bool)(x:U):un (g&&h) (.c8 g x)=x:=by cases g<;>cases h<;>rfl
@[simp]theorem anS(h:Bool)(x:U):un (g&&h) (.c8 (g&&h) x)=x:=Tw x
@[simp]theorem anT(h:Bool)(x:U):un (g&&h) (.c8 h x)=x:=by cases g<;>cases h<;>rfl
@[simp]theorem anU(h k:Bool)(x:U):un (g&&h&&k) (.c8 g x)=x:=by cases g<;>cases h<;>cases k<;>rfl
@[simp]theorem ajV(b:Bool):mB (.val (.bool b))=b:=rfl
@[simp]theorem ako{op:Op}:tU C f call S ops ⟨d,op,ty,pos,aV,none⟩=bC C f call S true ⟨d,op,ty,pos,aV,none⟩:=rfl
def Ez(C:aF)(f:FuncId)(call:FuncId→List U→Option (U×List U))(S:ah)(o:Oper)(g:Bool):Option bn:=match bC C f call S g o with|some e=>if e.wr.isEmpty then some {e with dA:=e.dA.map fun x=>(x.1, .c8 g x.2)}else if g then some e else some (zx o)|none=>if g then none else some (zx o)
def yQ(want:Bool):U→Option Bool| .val (.bool b)=>some (b==want)| .c8 g (.val (.bool b))=>some (g&&(b==want))| .c8 false _=>some false|_=>none
@[simp]theorem alb(w b:Bool):yQ w (.val (.bool b))=some (b==w):=rfl
@[simp]theorem ak9(w b g:Bool):yQ w (.c8 g (.val (.bool b)))=some (g&&(b==w)):=rfl
def sI(w:Bool)(S:ah):Option Nat→Option Bool|some d=>yQ w (S.t d)|none=>none
@[simp]theorem Pq(w:Bool)(d:Nat):sI w S (some d)=yQ w (S.t d):=rfl
def HT(ops:Array Oper)(j:Nat):Option Nat:=(ops[j]?).bind (·.dst)
def oT:List Oper→Nat→Option Nat|[],_=>none|o::_,0=>o.dst|_::l,j+1=>oT l j
theorem Zi(l:List Oper)(j:Nat):HT ⟨l⟩ j=oT l j:=by unfold HT;simp only[List.getElem?_toArray];induction l generalizing j with|nil=>(simp[oT])|cons o l ih=>cases j with|zero=>(simp[oT])|succ j=>simpa[oT]using ih j
def N5(C:aF)(f:FuncId)(call:FuncId→List U→Option (U×List U))(S:ah)(o:Oper):Option Bool→Option bn|some g=>Ez C f call S o g|none=>none
@[simp]theorem Em(o:Oper)(g:Bool):N5 C f call S o (some g)=Ez C f call S o g:=rfl
def ER:List (Nat×U)→Bool→List (Nat×U)|[],_=>[]|x::l,g=>(x.1, .c8 g x.2)::ER l g
def HK(o:Oper)(g:Bool):Option bn→Option bn|some e=>if e.wr.isEmpty then some ⟨ER e.dA g,e.rd,e.wr⟩else if g then some e else some (zx o)|none=>if g then none else some (zx o)
theorem aa2(l:List (Nat×U))(g:Bool):ER l g=l.map fun x=>(x.1, .c8 g x.2):=by induction l with|nil=>(rfl)|cons x l ih=>simp[ER,ih]
@[simp]theorem EA(o:Oper)(g:Bool):Ez C f call S o g=HK o g (bC C f call S g o):=by unfold Ez HK;split<;>simp_all[aa2]
@[simp]theorem akf(o:Oper)(g:Bool)(t:Nat)(v:U)(rd:List Id):HK o g (some ⟨[(t,v)],rd,[]⟩)=some ⟨[(t, .c8 g v)],rd,[]⟩:=rfl
@[simp]theorem Ey{op:Op}{j:Nat}{w:Bool}{l:List Oper}:tU C f call S ⟨l⟩ ⟨d,op,ty,pos,aV,some (j,w)⟩=N5 C f call S ⟨d,op,ty,pos,aV,some (j,w)⟩ (sI w S (oT l j)):=by rw[←Zi];unfold tU q9 HT;simp only;cases((⟨l⟩:Array Oper)[j]?).bind (·.dst)with|none=>(rfl)|some d=>simp only[Pq];cases S.t d with|val v=>(cases v<;>rfl)|c8 g x=>(cases x with|val v=>(cases v<;>cases g<;>rfl)|_=>cases g<;>rfl)|_=>rfl
@[simp]theorem ala(w:Bool)(x:U):yQ w (.c8 false x)=some false:=by cases x with|val v=>(cases v<;>rfl)|_=>rfl
variable{op:Op}
@[simp]theorem amO{t:Nat}(v:U):ret ⟨some t,op,ty,pos,aV,bD⟩ v=some ⟨[(t,v)],[],[]⟩:=rfl
@[simp]theorem amH{t:Nat}(v:U)(rd:List Id)(wr:List (Id×Option Rows)):put ⟨some t,op,ty,pos,aV,bD⟩ v rd wr=⟨[(t,v)],rd,wr⟩:=rfl
@[simp]theorem amG(v:U)(rd:List Id)(wr:List (Id×Option Rows)):put ⟨none,op,ty,pos,aV,bD⟩ v rd wr=⟨[],rd,wr⟩:=rfl
@[simp]theorem amN(o:Oper)(v:Value):lQ o (some v)=if ey v then ret o (.val v)else none:=rfl
@[simp]theorem alT(k:IntKind)(n:Int):ey (.int k n)=true:=rfl
@[simp]theorem alS(b:Bool):ey (.bool b)=true:=rfl
@[simp]theorem alU(b:ByteArray):ey (.string b)=true:=rfl
@[simp]theorem akp(o:Oper)(h x y:Bool):tY o (.val (.bool h)) (.val (.bool x)) (.val (.bool y))=ret o (.val (.bool (if h then x else y))):=rfl
@[simp]theorem anu(v:Value):ox (.val v)=some v:=rfl
@[simp]theorem ant(c:List U):ox (.agg c)=(iW c).map fun vs=> .agg ⟨vs⟩:=rfl
@[simp]theorem anw:iW []=some []:=rfl
@[simp]theorem anv(v:Value)(l:List U):iW (.val v::l)=(iW l).map (v::·):=rfl
@[simp]theorem alR(k:IntKind)(n:Int):ei (.val (.int k n))=some n:=rfl
@[simp]theorem akn{o:Oper}{op:BinOp}{t:TypeId}{x y:Operand}{eP hJ:Value}:sA C o op t x y (.val eP) (.val hJ)=lQ o (eR C.P op t x y eP hJ):=rfl
@[simp]theorem akq{o:Oper}{op:UnOp}{eP:Value}:we C o op (.val eP)=lQ o (Dz C.P op eP):=rfl
theorem Zz{o:Oper}{s t:TypeId}{eP:Value}(h:tN C s t=false):sC C o s t (.val eP)=lQ o (En C.P s t eP):=by simp[sC,h,Be]
variable{P:Program}{t:TypeId}{x y:Operand}{k:IntKind}{a b:Int}
@[simp]theorem Xo:eR P .add t x y (.int k a) (.int k b)=some (.int k (k.wrap (a+b))):=by simp[eR,eqGuard,binOp,Op.intArith,cY,bind,Sem.bind,pure]
@[simp]theorem XA:eR P .sub t x y (.int k a) (.int k b)=some (.int k (k.wrap (a-b))):=by simp[eR,eqGuard,binOp,Op.intArith,cY,bind,Sem.bind,pure]
@[simp]theorem Xv:eR P .mul t x y (.int k a) (.int k b)=some (.int k (k.wrap (a*b))):=by simp[eR,eqGuard,binOp,Op.intArith,cY,bind,Sem.bind,pure]
@[simp]theorem Xp:eR P .eql t x y (.int k a) (.int k b)=some (.bool (a==b)):=by simp[eR,eqGuard,binOp,Op.intCmp,cY,bind,Sem.bind,pure]
@[simp]theorem Xw:eR P .neq t x y (.int k a) (.int k b)=some (.bool (a !=b)):=by simp[eR,eqGuard,binOp,Op.intCmp,cY,bind,Sem.bind,pure]
@[simp]theorem Xu:eR P .lss t x y (.int k a) (.int k b)=some (.bool (decide (a<b))):=by simp[eR,eqGuard,binOp,Op.intCmp,cY,bind,Sem.bind,pure]
@[simp]theorem Xt:eR P .leq t x y (.int k a) (.int k b)=some (.bool (decide (a≤b))):=by simp[eR,eqGuard,binOp,Op.intCmp,cY,bind,Sem.bind,pure]
@[simp]theorem Xs:eR P .gtr t x y (.int k a) (.int k b)=some (.bool (decide (b<a))):=by simp[eR,eqGuard,binOp,Op.intCmp,cY,bind,Sem.bind,pure]
@[simp]theorem Xr:eR P .geq t x y (.int k a) (.int k b)=some (.bool (decide (b≤a))):=by simp[eR,eqGuard,binOp,Op.intCmp,cY,bind,Sem.bind,pure]
@[simp]theorem an3{b:Bool}:Dz P .not (.bool b)=some (.bool !b):=rfl
@[simp]theorem alX{α β:Type}(c:Prop)[Decidable c](a b:Option α)(k:α→Option β):(if c then a else b).bind k=if c then a.bind k else b.bind k:=by split<;>rfl
@[simp]theorem alY{α β:Type}(c:Prop)[Decidable c](a b:Option α)(k:α→β):(if c then a else b).map k=if c then a.map k else b.map k:=by split<;>rfl
/-! ### Ends -/
variable{L:Id→Option (Option Rows)}{n:Nat}
@[simp]theorem ams(v:Value):pk L (n+1) (.val v)=some (.val v,[]):=rfl
@[simp]theorem amq(r:Rows):pk L (n+1) (.sl r)=some (.sl r,[]):=rfl
@[simp]theorem amt(r:List U):pk L (n+1) (.aI r)=some (.aI r,[]):=rfl
@[simp]theorem amr:pk L (n+1) .cu=some (.own [] 0,[]):=rfl
@[simp]theorem amo:pk L (n+1) .bp=some (.bp,[]):=rfl
@[simp]theorem alP(p:Id)(v:Value):imp p (.val v)=(.val v,[]):=rfl
@[simp]theorem alO(p:Id)(r:Rows):imp p (.sl r)=(.sl r,[]):=rfl
@[simp]theorem alQ(p:Id)(r:List U):imp p (.aI r)=(.aI r,[]):=rfl
@[simp]theorem alM(p:Id):imp p .bp=(.bp,[]):=rfl
@[simp]theorem alN(p:Id)(r:Rows)(m:Nat):imp p (.own r m)=(.rs p 0 m,[(p,some r)]):=rfl
@[simp]theorem akV:ef []=true:=rfl
@[simp]theorem akU(r:List U)(l:Rows):ef (r::l)=(cK r&&ef l):=by simp[ef]
@[simp]theorem EE:cK []=true:=rfl
@[simp]theorem ED(r:U)(l:List U):cK (r::l)=(flat r&&cK l):=by simp[cK]
@[simp]theorem EL(v:Value):flat (.val v)=true:=by simp[flat]
@[simp]theorem EK(v:Rows):flat (.sl v)=true:=by simp[flat]
@[simp]theorem EI(v:Rows):flat (.ep v)=true:=by simp[flat]
@[simp]theorem EH(v:Rows):flat (.im v)=true:=by simp[flat]
@[simp]theorem akW(v:List U):flat (.aI v)=true:=by simp[flat]
@[simp]theorem EJ(v:Rows)(m:Nat):flat (.own v m)=ef v:=by simp[flat]
theorem ZZ{α:Type}(g:α→List U)(l:List α)(h:∀x,cK (g x)=true):ef (l.map g)=true:=by induction l with|nil=>(simp)|cons x l ih=>simp[h,ih]
theorem R9{id:Id}{len:Nat}{rows:Rows}(h:L id=some (some rows))(hl:len≤rows.length)(hf:ef rows=true):pk L (n+1) (.rs id 0 len)=some (.own rows len,[id]):=by simp[pk,lO,h,hl,hf]
@[simp]theorem ahW(m:Nat)(t:Nat→U)(h:Id→Option (Option Rows))(slots:List Nat):jv ⟨m,t,h⟩ slots=(jN h t slots).bind fun x=>if dQ x.2 then some x.1 else none:=by unfold jv;dsimp only;cases jN h t slots<;>rfl
@[simp]theorem amd(t:Nat→U):jN L t []=some ([],[]):=rfl
@[simp]theorem ag3(t:Nat→U)(s:Nat)(l:List Nat):jN L t (s::l)=(pk L 9 (t s)).bind fun x=>(jN L t l).map fun y=>(x.1::y.1,x.2++y.2):=rfl
@[simp]theorem al9(m:Nat)(v:List U):aO m [] v=⟨m,fun _=> .bp,fun _=>none⟩:=rfl
@[simp]theorem al8(m s:Nat)(l:List Nat)(v:U)(vs:List U):aO m (s::l) (v::vs)=⟨m,ak (aO m l vs).t s (imp [s] v).1,bk (aO m l vs).h (imp [s] v).2⟩:=rfl
@[simp]theorem amK{t:Nat}:uZ C S (.tmp t)=pk S.h 9 (un true (S.t t)):=rfl
@[simp]theorem amM:kH C S []=some ([],[]):=rfl
@[simp]theorem amL{r:ResultVar}{l:List ResultVar}:kH C S (r::l)=(uZ C S r).bind fun x=>(kH C S l).map fun y=>(x.1::y.1,x.2++y.2):=rfl
end
end Go.Ab
