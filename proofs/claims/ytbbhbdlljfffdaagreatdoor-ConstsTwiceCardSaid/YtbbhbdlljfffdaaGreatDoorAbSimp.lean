import Derived.Test.YtbbhbdlljfffdaaGreatDoorAbBase
set_option linter.all false
namespace Go.Ab
open Go
abbrev I(n:Int):U:= .val (.int .i64 n)
abbrev B(b:Bool):U:= .val (.bool b)
section
variable{C:av}{f:FuncId}{call:FuncId→List U→Option (U×List U)}{S:ah}{g:Bool}{ops:Array Oper}
variable{ρ:Type}{d:Option Tmp}{ty:TypeId}{pos:String}{aD:Array Edge}{aS:Option (Nat×Bool)}
@[simp]theorem ah6{α β:Type}[DecidableEq α](f:α→β)(k j:α)(v:β):ai f k v j=if j=k then v else f j:=rfl
@[simp]theorem ah5(t:Nat→U):cm t []=t:=rfl
@[simp]theorem ah4(t:Nat→U)(i:Nat)(v:U)(l:List (Nat×U)):cm t ((i,v)::l)=ai (cm t l) i v:=rfl
@[simp]theorem ah3(h:Id→Option (Option Rows)):aI h []=h:=rfl
@[simp]theorem ah2(h:Id→Option (Option Rows))(i:Id)(v:Option Rows)(l:List (Id×Option Rows)):aI h ((i,v)::l)=ai (aI h l) i (some v):=rfl
@[simp]theorem adM(n:Nat)(t:Nat→U)(h:Id→Option (Option Rows))(cG:List (Nat×U))(rd:List Id)(wr:List (Id×Option Rows)):ah.app ⟨n,t,h⟩ ⟨cG,rd,wr⟩=⟨n,cm t cG,aI h wr⟩:=rfl
/-! ### Operands, guards -/
@[simp]theorem ae2(t:Nat):S.get C (.tmp t)=S.t t:=rfl
@[simp]theorem aeW(k:IntKind)(n:Int):S.get C (.const (.int k n))= .val (.int k n):=rfl
@[simp]theorem aeT(b:Bool):S.get C (.const (.bool b))= .val (.bool b):=rfl
@[simp]theorem ae1(s:ByteArray):S.get C (.const (.string s))= .val (.string s):=rfl
@[simp]theorem aeZ:S.get C (.const (.pointer none))= .val (.pointer none):=rfl
@[simp]theorem ae0:S.get C (.const (.slice none 0 0))= .bU:=rfl
@[simp]theorem aeY:S.get C (.const .nilIface)= .val .nilIface:=rfl
@[simp]theorem aeX:S.get C (.const .nilFunc)= .val .nilFunc:=rfl
@[simp]theorem aeU(k:FuncId):S.get C (.func k)= .fn (.func k) [] []:=rfl
@[simp]theorem aeV(k:Nat):S.get C (.global k)=match C.bM k with|some cs=> .ay cs|none=> .aK:=rfl
@[simp]theorem ahX(v:Value):un g (.val v)= .val v:=rfl
@[simp]theorem ahS(r:Rows):un g (.sl r)= .sl r:=rfl
@[simp]theorem ahY(c:List U):un g (.ay c)= .ay c:=rfl
@[simp]theorem ahT:un g .bU= .bU:=rfl
@[simp]theorem ahR(i:Id)(a b:Nat):un g (.rs i a b)= .rs i a b:=rfl
@[simp]theorem ahO(i:Id)(a b:Nat):un g (.mp i a b)= .mp i a b:=rfl
@[simp]theorem ahH(k:Fn)(a b:List U):un g (.fn k a b)= .fn k a b:=rfl
@[simp]theorem ahC(c:List U):un g (.agg c)= .agg c:=rfl
@[simp]theorem ahW(c:List U):un g (.aG c)= .aG c:=rfl
@[simp]theorem ahI:un g .aK= .aK:=rfl
@[simp]theorem ahQ(r:Rows)(m:Nat):un g (.own r m)= .own r m:=rfl
@[simp]theorem NK(x:U):un g (.cv g x)=x:=by cases g<;>rfl
@[simp]theorem ahV(x:U):un g (.cv true x)=x:=by cases g<;>rfl
@[simp]theorem ahD(h:Bool)(x:U):un (g&&h) (.cv g x)=x:=by cases g<;>cases h<;>rfl
@[simp]theorem ahE(h:Bool)(x:U):un (g&&h) (.cv (g&&h) x)=x:=NK x
@[simp]theorem ahF(h:Bool)(x:U):un (g&&h) (.cv h x)=x:=by cases g<;>cases h<;>rfl
@[simp]theorem ahG(h k:Bool)(x:U):un (g&&h&&k) (.cv g x)=x:=by cases g<;>cases h<;>cases k<;>rfl
@[simp]theorem adP(b:Bool):jQ (.val (.bool b))=b:=rfl
@[simp]theorem aeo{op:Op}:qm C f call S ops ⟨d,op,ty,pos,aD,none⟩=aR C f call S true ⟨d,op,ty,pos,aD,none⟩:=rfl
def A1(C:av)(f:FuncId)(call:FuncId→List U→Option (U×List U))(S:ah)(o:Oper)(g:Bool):Option aJ:=match aR C f call S g o with|some e=>if e.wr.isEmpty then some {e with cG:=e.cG.map fun x=>(x.1, .cv g x.2)}else if g then some e else some (vt o)|none=>if g then none else some (vt o)
def uR(want:Bool):U→Option Bool| .val (.bool b)=>some (b==want)| .cv g (.val (.bool b))=>some (g&&(b==want))| .cv false _=>some false|_=>none
@[simp]theorem ae6(w b:Bool):uR w (.val (.bool b))=some (b==w):=rfl
@[simp]theorem ae4(w b g:Bool):uR w (.cv g (.val (.bool b)))=some (g&&(b==w)):=rfl
def oZ(w:Bool)(S:ah):Option Nat→Option Bool|some d=>uR w (S.t d)|none=>none
@[simp]theorem J8(w:Bool)(d:Nat):oZ w S (some d)=uR w (S.t d):=rfl
def DI(ops:Array Oper)(j:Nat):Option Nat:=(ops[j]?).bind (·.dst)
def lX:List Oper→Nat→Option Nat|[],_=>none|o::_,0=>o.dst|_::l,j+1=>lX l j
theorem Ty(l:List Oper)(j:Nat):DI ⟨l⟩ j=lX l j:=by unfold DI;simp only[List.getElem?_toArray];induction l generalizing j with|nil=>(simp[lX])|cons o l ih=>cases j with|zero=>(simp[lX])|succ j=>simpa[lX]using ih j
def IW(C:av)(f:FuncId)(call:FuncId→List U→Option (U×List U))(S:ah)(o:Oper):Option Bool→Option aJ|some g=>A1 C f call S o g|none=>none
@[simp]theorem AP(o:Oper)(g:Bool):IW C f call S o (some g)=A1 C f call S o g:=rfl
def Bd:List (Nat×U)→Bool→List (Nat×U)|[],_=>[]|x::l,g=>(x.1, .cv g x.2)::Bd l g
def Dz(o:Oper)(g:Bool):Option aJ→Option aJ|some e=>if e.wr.isEmpty then some ⟨Bd e.cG g,e.rd,e.wr⟩else if g then some e else some (vt o)|none=>if g then none else some (vt o)
theorem Vj(l:List (Nat×U))(g:Bool):Bd l g=l.map fun x=>(x.1, .cv g x.2):=by induction l with|nil=>(rfl)|cons x l ih=>simp[Bd,ih]
@[simp]theorem A2(o:Oper)(g:Bool):A1 C f call S o g=Dz o g (aR C f call S g o):=by unfold A1 Dz;split<;>simp_all[Vj]
@[simp]theorem aef(o:Oper)(g:Bool)(t:Nat)(v:U)(rd:List Id):Dz o g (some ⟨[(t,v)],rd,[]⟩)=some ⟨[(t, .cv g v)],rd,[]⟩:=rfl
@[simp]theorem A0{op:Op}{j:Nat}{w:Bool}{l:List Oper}:qm C f call S ⟨l⟩ ⟨d,op,ty,pos,aD,some (j,w)⟩=IW C f call S ⟨d,op,ty,pos,aD,some (j,w)⟩ (oZ w S (lX l j)):=by rw[←Ty];unfold qm nZ DI;simp only;cases((⟨l⟩:Array Oper)[j]?).bind (·.dst)with|none=>(rfl)|some d=>simp only[J8];cases S.t d with|val v=>(cases v<;>rfl)|cv g x=>(cases x with|val v=>(cases v<;>cases g<;>rfl)|_=>cases g<;>rfl)|_=>rfl
@[simp]theorem ae5(w:Bool)(x:U):uR w (.cv false x)=some false:=by cases x with|val v=>(cases v<;>rfl)|_=>rfl
variable{op:Op}
@[simp]theorem agy{t:Nat}(v:U):ret ⟨some t,op,ty,pos,aD,aS⟩ v=some ⟨[(t,v)],[],[]⟩:=rfl
@[simp]theorem ags{t:Nat}(v:U)(rd:List Id)(wr:List (Id×Option Rows)):put ⟨some t,op,ty,pos,aD,aS⟩ v rd wr=⟨[(t,v)],rd,wr⟩:=rfl
@[simp]theorem agr(v:U)(rd:List Id)(wr:List (Id×Option Rows)):put ⟨none,op,ty,pos,aD,aS⟩ v rd wr=⟨[],rd,wr⟩:=rfl
@[simp]theorem agx(o:Oper)(v:Value):iI o (some v)=if dc v then ret o (.val v)else none:=rfl
@[simp]theorem afz(k:IntKind)(n:Int):dc (.int k n)=true:=rfl
@[simp]theorem afy(b:Bool):dc (.bool b)=true:=rfl
@[simp]theorem afA(b:ByteArray):dc (.string b)=true:=rfl
@[simp]theorem aep(o:Oper)(h x y:Bool):qq o (.val (.bool h)) (.val (.bool x)) (.val (.bool y))=ret o (.val (.bool (if h then x else y))):=rfl
@[simp]theorem ahe(v:Value):jr (.val v)=some v:=rfl
@[simp]theorem ahd(c:List U):jr (.agg c)=(gp c).map fun vs=> .agg ⟨vs⟩:=rfl
@[simp]theorem ahg:gp []=some []:=rfl
@[simp]theorem ahf(v:Value)(l:List U):gp (.val v::l)=(gp l).map (v::·):=rfl
@[simp]theorem afx(k:IntKind)(n:Int):dr (.val (.int k n))=some n:=rfl
@[simp]theorem aen{o:Oper}{op:BinOp}{t:TypeId}{x y:Operand}{dL fN:Value}:jT C o op t x y (.val dL) (.val fN)=iI o (cV C.P op t x y dL fN):=rfl
@[simp]theorem aeq{o:Oper}{op:UnOp}{dL:Value}:su C o op (.val dL)=iI o (wI C.P op dL):=rfl
theorem TO{o:Oper}{s t:TypeId}{dL:Value}(h:qf C s t=false):oS C o s t (.val dL)=iI o (AQ C.P s t dL):=by simp[oS,h,xA]
variable{P:Program}{t:TypeId}{x y:Operand}{k:IntKind}{a b:Int}
@[simp]theorem RC:cV P .add t x y (.int k a) (.int k b)=some (.int k (k.wrap (a+b))):=by simp[cV,eqGuard,binOp,Op.intArith,bY,bind,Sem.bind,pure]
@[simp]theorem RR:cV P .sub t x y (.int k a) (.int k b)=some (.int k (k.wrap (a-b))):=by simp[cV,eqGuard,binOp,Op.intArith,bY,bind,Sem.bind,pure]
@[simp]theorem RL:cV P .mul t x y (.int k a) (.int k b)=some (.int k (k.wrap (a*b))):=by simp[cV,eqGuard,binOp,Op.intArith,bY,bind,Sem.bind,pure]
@[simp]theorem RD:cV P .eql t x y (.int k a) (.int k b)=some (.bool (a==b)):=by simp[cV,eqGuard,binOp,Op.intCmp,bY,bind,Sem.bind,pure]
@[simp]theorem RM:cV P .neq t x y (.int k a) (.int k b)=some (.bool (a !=b)):=by simp[cV,eqGuard,binOp,Op.intCmp,bY,bind,Sem.bind,pure]
@[simp]theorem RJ:cV P .lss t x y (.int k a) (.int k b)=some (.bool (decide (a<b))):=by simp[cV,eqGuard,binOp,Op.intCmp,bY,bind,Sem.bind,pure]
@[simp]theorem RI:cV P .leq t x y (.int k a) (.int k b)=some (.bool (decide (a≤b))):=by simp[cV,eqGuard,binOp,Op.intCmp,bY,bind,Sem.bind,pure]
@[simp]theorem RH:cV P .gtr t x y (.int k a) (.int k b)=some (.bool (decide (b<a))):=by simp[cV,eqGuard,binOp,Op.intCmp,bY,bind,Sem.bind,pure]
@[simp]theorem RG:cV P .geq t x y (.int k a) (.int k b)=some (.bool (decide (b≤a))):=by simp[cV,eqGuard,binOp,Op.intCmp,bY,bind,Sem.bind,pure]
@[simp]theorem ahP{b:Bool}:wI P .not (.bool b)=some (.bool !b):=rfl
@[simp]theorem afD{α β:Type}(c:Prop)[Decidable c](a b:Option α)(k:α→Option β):(if c then a else b).bind k=if c then a.bind k else b.bind k:=by split<;>rfl
@[simp]theorem afE{α β:Type}(c:Prop)[Decidable c](a b:Option α)(k:α→β):(if c then a else b).map k=if c then a.map k else b.map k:=by split<;>rfl
/-! ### Ends -/
variable{L:Id→Option (Option Rows)}{n:Nat}
@[simp]theorem agb(v:Value):pk L (n+1) (.val v)=some (.val v,[]):=rfl
@[simp]theorem af9(r:Rows):pk L (n+1) (.sl r)=some (.sl r,[]):=rfl
@[simp]theorem agc(r:List U):pk L (n+1) (.ay r)=some (.ay r,[]):=rfl
@[simp]theorem aga:pk L (n+1) .bU=some (.own [] 0,[]):=rfl
@[simp]theorem af8:pk L (n+1) .aK=some (.aK,[]):=rfl
@[simp]theorem afv(p:Id)(v:Value):imp p (.val v)=(.val v,[]):=rfl
@[simp]theorem afu(p:Id)(r:Rows):imp p (.sl r)=(.sl r,[]):=rfl
@[simp]theorem afw(p:Id)(r:List U):imp p (.ay r)=(.ay r,[]):=rfl
@[simp]theorem afs(p:Id):imp p .aK=(.aK,[]):=rfl
@[simp]theorem aft(p:Id)(r:Rows)(m:Nat):imp p (.own r m)=(.rs p 0 m,[(p,some r)]):=rfl
@[simp]theorem aeP:dA []=true:=rfl
@[simp]theorem aeO(r:List U)(l:Rows):dA (r::l)=(cg r&&dA l):=by simp[dA]
@[simp]theorem Ug:cg []=true:=rfl
@[simp]theorem Uf(r:U)(l:List U):cg (r::l)=(flat r&&cg l):=by simp[cg]
@[simp]theorem Um(v:Value):flat (.val v)=true:=by simp[flat]
@[simp]theorem Ul(v:Rows):flat (.sl v)=true:=by simp[flat]
@[simp]theorem Uj(v:Rows):flat (.dy v)=true:=by simp[flat]
@[simp]theorem Ui(v:Rows):flat (.im v)=true:=by simp[flat]
@[simp]theorem aeQ(v:List U):flat (.ay v)=true:=by simp[flat]
@[simp]theorem Uk(v:Rows)(m:Nat):flat (.own v m)=dA v:=by simp[flat]
theorem Uh{α:Type}(g:α→List U)(l:List α)(h:∀x,cg (g x)=true):dA (l.map g)=true:=by induction l with|nil=>(simp)|cons x l ih=>simp[h,ih]
theorem aaY{id:Id}{len:Nat}{rows:Rows}(h:L id=some (some rows))(hl:len≤rows.length)(hf:dA rows=true):pk L (n+1) (.rs id 0 len)=some (.own rows len,[id]):=by simp[pk,mA,h,hl,hf]
@[simp]theorem abz(m:Nat)(t:Nat→U)(h:Id→Option (Option Rows))(slots:List Nat):gz ⟨m,t,h⟩ slots=(gR h t slots).bind fun x=>if cY x.2 then some x.1 else none:=by unfold gz;dsimp only;cases gR h t slots<;>rfl
@[simp]theorem afR(t:Nat→U):gR L t []=some ([],[]):=rfl
@[simp]theorem aaJ(t:Nat→U)(s:Nat)(l:List Nat):gR L t (s::l)=(pk L 9 (t s)).bind fun x=>(gR L t l).map fun y=>(x.1::y.1,x.2++y.2):=rfl
@[simp]theorem afN(m:Nat)(v:List U):aC m [] v=⟨m,fun _=> .aK,fun _=>none⟩:=rfl
@[simp]theorem afM(m s:Nat)(l:List Nat)(v:U)(vs:List U):aC m (s::l) (v::vs)=⟨m,ai (aC m l vs).t s (imp [s] v).1,aI (aC m l vs).h (imp [s] v).2⟩:=rfl
@[simp]theorem agu{t:Nat}:ri C S (.tmp t)=pk S.h 9 (un true (S.t t)):=rfl
@[simp]theorem agw:iH C S []=some ([],[]):=rfl
@[simp]theorem agv{r:ResultVar}{l:List ResultVar}:iH C S (r::l)=(ri C S r).bind fun x=>(iH C S l).map fun y=>(x.1::y.1,x.2++y.2):=rfl
end
end Go.Ab
