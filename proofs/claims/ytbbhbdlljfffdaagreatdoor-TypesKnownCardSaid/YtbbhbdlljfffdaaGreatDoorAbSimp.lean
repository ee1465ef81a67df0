import Derived.Test.YtbbhbdlljfffdaaGreatDoorAbBase
set_option linter.all false
namespace Go.Ab
open Go
abbrev I(n:Int):U:= .val (.int .i64 n)
abbrev B(b:Bool):U:= .val (.bool b)
section
variable{C:aG}{f:FuncId}{call:FuncId→List U→Option (U×List U)}{S:ah}{g:Bool}{ops:Array Oper}
variable{ρ:Type}{d:Option Tmp}{ty:TypeId}{pos:String}{aV:Array Edge}{bB:Option (Nat×Bool)}
@[simp]theorem an8{α β:Type}[DecidableEq α](f:α→β)(k j:α)(v:β):ak f k v j=if j=k then v else f j:=rfl
@[simp]theorem an7(t:Nat→U):cW t []=t:=rfl
@[simp]theorem an6(t:Nat→U)(i:Nat)(v:U)(l:List (Nat×U)):cW t ((i,v)::l)=ak (cW t l) i v:=rfl
@[simp]theorem an5(h:Id→Option (Option Rows)):bp h []=h:=rfl
@[simp]theorem an4(h:Id→Option (Option Rows))(i:Id)(v:Option Rows)(l:List (Id×Option Rows)):bp h ((i,v)::l)=ak (bp h l) i (some v):=rfl
@[simp]theorem ajK(n:Nat)(t:Nat→U)(h:Id→Option (Option Rows))(dz:List (Nat×U))(rd:List Id)(wr:List (Id×Option Rows)):ah.app ⟨n,t,h⟩ ⟨dz,rd,wr⟩=⟨n,cW t dz,bp h wr⟩:=rfl
/-! ### Operands, guards -/
@[simp]theorem ak0(t:Nat):S.get C (.tmp t)=S.t t:=rfl
@[simp]theorem akU(k:IntKind)(n:Int):S.get C (.const (.int k n))= .val (.int k n):=rfl
@[simp]theorem akR(b:Bool):S.get C (.const (.bool b))= .val (.bool b):=rfl
@[simp]theorem akZ(s:ByteArray):S.get C (.const (.string s))= .val (.string s):=rfl
@[simp]theorem akX:S.get C (.const (.pointer none))= .val (.pointer none):=rfl
@[simp]theorem akY:S.get C (.const (.slice none 0 0))= .cw:=rfl
@[simp]theorem akW:S.get C (.const .nilIface)= .val .nilIface:=rfl
@[simp]theorem akV:S.get C (.const .nilFunc)= .val .nilFunc:=rfl
@[simp]theorem akS(k:FuncId):S.get C (.func k)= .fn (.func k) [] []:=rfl
@[simp]theorem akT(k:Nat):S.get C (.global k)=match C.cA k with|some cs=> .aD cs|none=> .br:=rfl
@[simp]theorem an0(v:Value):un g (.val v)= .val v:=rfl
@[simp]theorem anV(r:Rows):un g (.sl r)= .sl r:=rfl
@[simp]theorem an1(c:List U):un g (.aD c)= .aD c:=rfl
@[simp]theorem anW:un g .cw= .cw:=rfl
@[simp]theorem anU(i:Id)(a b:Nat):un g (.rs i a b)= .rs i a b:=rfl
@[simp]theorem anR(i:Id)(a b:Nat):un g (.mp i a b)= .mp i a b:=rfl
@[simp]theorem anK(k:Fn)(a b:List U):un g (.fn k a b)= .fn k a b:=rfl
@[simp]theorem anF(c:List U):un g (.agg c)= .agg c:=rfl
@[simp]theorem anZ(c:List U):un g (.aS c)= .aS c:=rfl
@[simp]theorem anL:un g .br= .br:=rfl
@[simp]theorem anT(r:Rows)(m:Nat):un g (.own r m)= .own r m:=rfl
@[simp]theorem Tk(x:U):un g (.c8 g x)=x:=by cases g<;>rfl
@[simp]theorem anY(x:U):un g (.c8 true x)=x:=by cases g<;>rfl
@[simp]theorem anG(h:Bool)(x:U):un (g&&h) (.c8 g x)=x:=by cases g<;>cases h<;>rfl
@[simp]theorem anH(h:Bool)(x:U):un (g&&h) (.c8 (g&&h) x)=x:=Tk x
@[simp]theorem anI(h:Bool)(x:U):un (g&&h) (.c8 h x)=x:=by cases g<;>cases h<;>rfl
@[simp]theorem anJ(h k:Bool)(x:U):un (g&&h&&k) (.c8 g x)=x:=by cases g<;>cases h<;>cases k<;>rfl
@[simp]theorem ajN(b:Bool):l9 (.val (.bool b))=b:=rfl
@[simp]theorem akg{op:Op}:tE C f call S ops ⟨d,op,ty,pos,aV,none⟩=bA C f call S true ⟨d,op,ty,pos,aV,none⟩:=rfl
def Et(C:aG)(f:FuncId)(call:FuncId→List U→Option (U×List U))(S:ah)(o:Oper)(g:Bool):Option bq:=match bA C f call S g o with|some e=>if e.wr.isEmpty then some {e with dz:=e.dz.map fun x=>(x.1, .c8 g x.2)}else if g then some e else some (y9 o)|none=>if g then none else some (y9 o)
def yB(want:Bool):U→Option Bool| .val (.bool b)=>some (b==want)| .c8 g (.val (.bool b))=>some (g&&(b==want))| .c8 false _=>some false|_=>none
@[simp]theorem ak3(w b:Bool):yB w (.val (.bool b))=some (b==w):=rfl
@[simp]theorem ak1(w b g:Bool):yB w (.c8 g (.val (.bool b)))=some (g&&(b==w)):=rfl
def sg(w:Bool)(S:ah):Option Nat→Option Bool|some d=>yB w (S.t d)|none=>none
@[simp]theorem Pp(w:Bool)(d:Nat):sg w S (some d)=yB w (S.t d):=rfl
def HW(ops:Array Oper)(j:Nat):Option Nat:=(ops[j]?).bind (·.dst)
def oD:List Oper→Nat→Option Nat|[],_=>none|o::_,0=>o.dst|_::l,j+1=>oD l j
theorem Zf(l:List Oper)(j:Nat):HW ⟨l⟩ j=oD l j:=by unfold HW;simp only[List.getElem?_toArray];induction l generalizing j with|nil=>(simp[oD])|cons o l ih=>cases j with|zero=>(simp[oD])|succ j=>simpa[oD]using ih j
def N5(C:aG)(f:FuncId)(call:FuncId→List U→Option (U×List U))(S:ah)(o:Oper):Option Bool→Option bq|some g=>Et C f call S o g|none=>none
@[simp]theorem Ei(o:Oper)(g:Bool):N5 C f call S o (some g)=Et C f call S o g:=rfl
def EK:List (Nat×U)→Bool→List (Nat×U)|[],_=>[]|x::l,g=>(x.1, .c8 g x.2)::EK l g
def HL(o:Oper)(g:Bool):Option bq→Option bq|some e=>if e.wr.isEmpty then some ⟨EK e.dz g,e.rd,e.wr⟩else if g then some e else some (y9 o)|none=>if g then none else some (y9 o)
theorem aaU(l:List (Nat×U))(g:Bool):EK l g=l.map fun x=>(x.1, .c8 g x.2):=by induction l with|nil=>(rfl)|cons x l ih=>simp[EK,ih]
@[simp]theorem Eu(o:Oper)(g:Bool):Et C f call S o g=HL o g (bA C f call S g o):=by unfold Et HL;split<;>simp_all[aaU]
@[simp]theorem aj7(o:Oper)(g:Bool)(t:Nat)(v:U)(rd:List Id):HL o g (some ⟨[(t,v)],rd,[]⟩)=some ⟨[(t, .c8 g v)],rd,[]⟩:=rfl
@[simp]theorem Es{op:Op}{j:Nat}{w:Bool}{l:List Oper}:tE C f call S ⟨l⟩ ⟨d,op,ty,pos,aV,some (j,w)⟩=N5 C f call S ⟨d,op,ty,pos,aV,some (j,w)⟩ (sg w S (oD l j)):=by rw[←Zf];unfold tE qS HW;simp only;cases((⟨l⟩:Array Oper)[j]?).bind (·.dst)with|none=>(rfl)|some d=>simp only[Pp];cases S.t d with|val v=>(cases v<;>rfl)|c8 g x=>(cases x with|val v=>(cases v<;>cases g<;>rfl)|_=>cases g<;>rfl)|_=>rfl
@[simp]theorem ak2(w:Bool)(x:U):yB w (.c8 false x)=some false:=by cases x with|val v=>(cases v<;>rfl)|_=>rfl
variable{op:Op}
@[simp]theorem amD{t:Nat}(v:U):ret ⟨some t,op,ty,pos,aV,bB⟩ v=some ⟨[(t,v)],[],[]⟩:=rfl
@[simp]theorem amw{t:Nat}(v:U)(rd:List Id)(wr:List (Id×Option Rows)):put ⟨some t,op,ty,pos,aV,bB⟩ v rd wr=⟨[(t,v)],rd,wr⟩:=rfl
@[simp]theorem amv(v:U)(rd:List Id)(wr:List (Id×Option Rows)):put ⟨none,op,ty,pos,aV,bB⟩ v rd wr=⟨[],rd,wr⟩:=rfl
@[simp]theorem amC(o:Oper)(v:Value):lB o (some v)=if eB v then ret o (.val v)else none:=rfl
@[simp]theorem alI(k:IntKind)(n:Int):eB (.int k n)=true:=rfl
@[simp]theorem alH(b:Bool):eB (.bool b)=true:=rfl
@[simp]theorem alJ(b:ByteArray):eB (.string b)=true:=rfl
@[simp]theorem akh(o:Oper)(h x y:Bool):tI o (.val (.bool h)) (.val (.bool x)) (.val (.bool y))=ret o (.val (.bool (if h then x else y))):=rfl
@[simp]theorem anj(v:Value):ob (.val v)=some v:=rfl
@[simp]theorem ani(c:List U):ob (.agg c)=(iT c).map fun vs=> .agg ⟨vs⟩:=rfl
@[simp]theorem anl:iT []=some []:=rfl
@[simp]theorem ank(v:Value)(l:List U):iT (.val v::l)=(iT l).map (v::·):=rfl
@[simp]theorem alG(k:IntKind)(n:Int):eo (.val (.int k n))=some n:=rfl
@[simp]theorem akf{o:Oper}{op:BinOp}{t:TypeId}{x y:Operand}{eP gU:Value}:r4 C o op t x y (.val eP) (.val gU)=lB o (eS C.P op t x y eP gU):=rfl
@[simp]theorem aki{o:Oper}{op:UnOp}{eP:Value}:vH C o op (.val eP)=lB o (Dx C.P op eP):=rfl
theorem Zv{o:Oper}{s t:TypeId}{eP:Value}(h:tr C s t=false):r6 C o s t (.val eP)=lB o (Ej C.P s t eP):=by simp[r6,h,AZ]
variable{P:Program}{t:TypeId}{x y:Operand}{k:IntKind}{a b:Int}
@[simp]theorem Xp:eS P .add t x y (.int k a) (.int k b)=some (.int k (k.wrap (a+b))):=by simp[eS,eqGuard,binOp,Op.intArith,cZ,bind,Sem.bind,pure]
@[simp]theorem XB:eS P .sub t x y (.int k a) (.int k b)=some (.int k (k.wrap (a-b))):=by simp[eS,eqGuard,binOp,Op.intArith,cZ,bind,Sem.bind,pure]
@[simp]theorem Xw:eS P .mul t x y (.int k a) (.int k b)=some (.int k (k.wrap (a*b))):=by simp[eS,eqGuard,binOp,Op.intArith,cZ,bind,Sem.bind,pure]
@[simp]theorem Xq:eS P .eql t x y (.int k a) (.int k b)=some (.bool (a==b)):=by simp[eS,eqGuard,binOp,Op.intCmp,cZ,bind,Sem.bind,pure]
@[simp]theorem Xx:eS P .neq t x y (.int k a) (.int k b)=some (.bool (a !=b)):=by simp[eS,eqGuard,binOp,Op.intCmp,cZ,bind,Sem.bind,pure]
@[simp]theorem Xv:eS P .lss t x y (.int k a) (.int k b)=some (.bool (decide (a<b))):=by simp[eS,eqGuard,binOp,Op.intCmp,cZ,bind,Sem.bind,pure]
@[simp]theorem Xu:eS P .leq t x y (.int k a) (.int k b)=some (.bool (decide (a≤b))):=by simp[eS,eqGuard,binOp,Op.intCmp,cZ,bind,Sem.bind,pure]
@[simp]theorem Xt:eS P .gtr t x y (.int k a) (.int k b)=some (.bool (decide (b<a))):=by simp[eS,eqGuard,binOp,Op.intCmp,cZ,bind,Sem.bind,pure]
@[simp]theorem Xs:eS P .geq t x y (.int k a) (.int k b)=some (.bool (decide (b≤a))):=by simp[eS,eqGuard,binOp,Op.intCmp,cZ,bind,Sem.bind,pure]
@[simp]theorem anS{b:Bool}:Dx P .not (.bool b)=some (.bool !b):=rfl
@[simp]theorem alM{α β:Type}(c:Prop)[Decidable c](a b:Option α)(k:α→Option β):(if c then a else b).bind k=if c then a.bind k else b.bind k:=by split<;>rfl
@[simp]theorem alN{α β:Type}(c:Prop)[Decidable c](a b:Option α)(k:α→β):(if c then a else b).map k=if c then a.map k else b.map k:=by split<;>rfl
/-! ### Ends -/
variable{L:Id→Option (Option Rows)}{n:Nat}
@[simp]theorem amg(v:Value):pk L (n+1) (.val v)=some (.val v,[]):=rfl
@[simp]theorem ame(r:Rows):pk L (n+1) (.sl r)=some (.sl r,[]):=rfl
@[simp]theorem amh(r:List U):pk L (n+1) (.aD r)=some (.aD r,[]):=rfl
@[simp]theorem amf:pk L (n+1) .cw=some (.own [] 0,[]):=rfl
@[simp]theorem amd:pk L (n+1) .br=some (.br,[]):=rfl
@[simp]theorem alE(p:Id)(v:Value):imp p (.val v)=(.val v,[]):=rfl
@[simp]theorem alD(p:Id)(r:Rows):imp p (.sl r)=(.sl r,[]):=rfl
@[simp]theorem alF(p:Id)(r:List U):imp p (.aD r)=(.aD r,[]):=rfl
@[simp]theorem alB(p:Id):imp p .br=(.br,[]):=rfl
@[simp]theorem alC(p:Id)(r:Rows)(m:Nat):imp p (.own r m)=(.rs p 0 m,[(p,some r)]):=rfl
@[simp]theorem akN:en []=true:=rfl
@[simp]theorem akM(r:List U)(l:Rows):en (r::l)=(cM r&&en l):=by simp[en]
@[simp]theorem Ey:cM []=true:=rfl
@[simp]theorem Ex(r:U)(l:List U):cM (r::l)=(flat r&&cM l):=by simp[cM]
@[simp]theorem EF(v:Value):flat (.val v)=true:=by simp[flat]
@[simp]theorem EE(v:Rows):flat (.sl v)=true:=by simp[flat]
@[simp]theorem EC(v:Rows):flat (.ey v)=true:=by simp[flat]
@[simp]theorem EB(v:Rows):flat (.im v)=true:=by simp[flat]
@[simp]theorem akO(v:List U):flat (.aD v)=true:=by simp[flat]
@[simp]theorem ED(v:Rows)(m:Nat):flat (.own v m)=en v:=by simp[flat]
theorem ZU{α:Type}(g:α→List U)(l:List α)(h:∀x,cM (g x)=true):en (l.map g)=true:=by induction l with|nil=>(simp)|cons x l ih=>simp[h,ih]
theorem R1{id:Id}{len:Nat}{rows:Rows}(h:L id=some (some rows))(hl:len≤rows.length)(hf:en rows=true):pk L (n+1) (.rs id 0 len)=some (.own rows len,[id]):=by simp[pk,lz,h,hl,hf]
@[simp]theorem ahL(m:Nat)(t:Nat→U)(h:Id→Option (Option Rows))(slots:List Nat):jl ⟨m,t,h⟩ slots=(jD h t slots).bind fun x=>if dP x.2 then some x.1 else none:=by unfold jl;dsimp only;cases jD h t slots<;>rfl
@[simp]theorem al2(t:Nat→U):jD L t []=some ([],[]):=rfl
@[simp]theorem agU(t:Nat→U)(s:Nat)(l:List Nat):jD L t (s::l)=(pk L 9 (t s)).bind fun x=>(jD L t l).map fun y=>(x.1::y.1,x.2++y.2):=rfl
@[simp]theorem alY(m:Nat)(v:List U):aL m [] v=⟨m,fun _=> .br,fun _=>none⟩:=rfl
@[simp]theorem alX(m s:Nat)(l:List Nat)(v:U)(vs:List U):aL m (s::l) (v::vs)=⟨m,ak (aL m l vs).t s (imp [s] v).1,bp (aL m l vs).h (imp [s] v).2⟩:=rfl
@[simp]theorem amz{t:Nat}:uH C S (.tmp t)=pk S.h 9 (un true (S.t t)):=rfl
@[simp]theorem amB:ku C S []=some ([],[]):=rfl
@[simp]theorem amA{r:ResultVar}{l:List ResultVar}:ku C S (r::l)=(uH C S r).bind fun x=>(ku C S l).map fun y=>(x.1::y.1,x.2++y.2):=rfl
end
end Go.Ab
