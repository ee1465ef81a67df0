import Derived.Test.YtbbhbdlljfffdaaGreatDoorAbBase
set_option linter.all false
namespace Go.Ab
open Go
abbrev I(n:Int):U:= .val (.int .i64 n)
abbrev B(b:Bool):U:= .val (.bool b)
section
variable{C:aB}{f:FuncId}{call:FuncId→List U→Option (U×List U)}{S:ah}{g:Bool}{ops:Array Oper}
variable{ρ:Type}{d:Option Tmp}{ty:TypeId}{pos:String}{aM:Array Edge}{bp:Option (Nat×Bool)}
@[simp]theorem adD{α β:Type}[DecidableEq α](f:α→β)(k j:α)(v:β):ai f k v j=if j=k then v else f j:=rfl
@[simp]theorem adC(t:Nat→U):cv t []=t:=rfl
@[simp]theorem adB(t:Nat→U)(i:Nat)(v:U)(l:List (Nat×U)):cv t ((i,v)::l)=ai (cv t l) i v:=rfl
@[simp]theorem adA(h:Id→Option (Option Rows)):aQ h []=h:=rfl
@[simp]theorem adz(h:Id→Option (Option Rows))(i:Id)(v:Option Rows)(l:List (Id×Option Rows)):aQ h ((i,v)::l)=ai (aQ h l) i (some v):=rfl
@[simp]theorem Zg(n:Nat)(t:Nat→U)(h:Id→Option (Option Rows))(cO:List (Nat×U))(rd:List Id)(wr:List (Id×Option Rows)):ah.app ⟨n,t,h⟩ ⟨cO,rd,wr⟩=⟨n,cv t cO,aQ h wr⟩:=rfl
/-! ### Operands, guards -/
@[simp]theorem aaz(t:Nat):S.get C (.tmp t)=S.t t:=rfl
@[simp]theorem aat(k:IntKind)(n:Int):S.get C (.const (.int k n))= .val (.int k n):=rfl
@[simp]theorem aaq(b:Bool):S.get C (.const (.bool b))= .val (.bool b):=rfl
@[simp]theorem aay(s:ByteArray):S.get C (.const (.string s))= .val (.string s):=rfl
@[simp]theorem aaw:S.get C (.const (.pointer none))= .val (.pointer none):=rfl
@[simp]theorem aax:S.get C (.const (.slice none 0 0))= .bQ:=rfl
@[simp]theorem aav:S.get C (.const .nilIface)= .val .nilIface:=rfl
@[simp]theorem aau:S.get C (.const .nilFunc)= .val .nilFunc:=rfl
@[simp]theorem aar(k:FuncId):S.get C (.func k)= .fn (.func k) [] []:=rfl
@[simp]theorem aas(k:Nat):S.get C (.global k)=match C.bJ k with|some cs=> .aL cs|none=> .aU:=rfl
@[simp]theorem adu(v:Value):un g (.val v)= .val v:=rfl
@[simp]theorem adp(r:Rows):un g (.sl r)= .sl r:=rfl
@[simp]theorem adv(c:List U):un g (.aL c)= .aL c:=rfl
@[simp]theorem adq:un g .bQ= .bQ:=rfl
@[simp]theorem ado(i:Id)(a b:Nat):un g (.rs i a b)= .rs i a b:=rfl
@[simp]theorem adk(i:Id)(a b:Nat):un g (.mp i a b)= .mp i a b:=rfl
@[simp]theorem adb(k:Fn)(a b:List U):un g (.fn k a b)= .fn k a b:=rfl
@[simp]theorem ac6(c:List U):un g (.agg c)= .agg c:=rfl
@[simp]theorem adt(c:List U):un g (.aE c)= .aE c:=rfl
@[simp]theorem ade:un g .aU= .aU:=rfl
@[simp]theorem adm(r:Rows)(m:Nat):un g (.own r m)= .own r m:=rfl
@[simp]theorem Lc(x:U):un g (.cF g x)=x:=by cases g<;>rfl
@[simp]theorem ads(x:U):un g (.cF true x)=x:=by cases g<;>rfl
@[simp]theorem ac7(h:Bool)(x:U):un (g&&h) (.cF g x)=x:=by cases g<;>cases h<;>rfl
@[simp]theorem ac8(h:Bool)(x:U):un (g&&h) (.cF (g&&h) x)=x:=Lc x
@[simp]theorem ac9(h:Bool)(x:U):un (g&&h) (.cF h x)=x:=by cases g<;>cases h<;>rfl
@[simp]theorem ada(h k:Bool)(x:U):un (g&&h&&k) (.cF g x)=x:=by cases g<;>cases h<;>cases k<;>rfl
@[simp]theorem Zi(b:Bool):jS (.val (.bool b))=b:=rfl
@[simp]theorem ZW{op:Op}:pR C f call S ops ⟨d,op,ty,pos,aM,none⟩=bn C f call S true ⟨d,op,ty,pos,aM,none⟩:=rfl
def y2(C:aB)(f:FuncId)(call:FuncId→List U→Option (U×List U))(S:ah)(o:Oper)(g:Bool):Option aT:=match bn C f call S g o with|some e=>if e.wr.isEmpty then some {e with cO:=e.cO.map fun x=>(x.1, .cF g x.2)}else if g then some e else some (tW o)|none=>if g then none else some (tW o)
def tn(want:Bool):U→Option Bool| .val (.bool b)=>some (b==want)| .cF g (.val (.bool b))=>some (g&&(b==want))| .cF false _=>some false|_=>none
@[simp]theorem aaE(w b:Bool):tn w (.val (.bool b))=some (b==w):=rfl
@[simp]theorem aaC(w b g:Bool):tn w (.cF g (.val (.bool b)))=some (g&&(b==w)):=rfl
def oD(w:Bool)(S:ah):Option Nat→Option Bool|some d=>tn w (S.t d)|none=>none
@[simp]theorem HP(w:Bool)(d:Nat):oD w S (some d)=tn w (S.t d):=rfl
def Bw(ops:Array Oper)(j:Nat):Option Nat:=(ops[j]?).bind (·.dst)
def lW:List Oper→Nat→Option Nat|[],_=>none|o::_,0=>o.dst|_::l,j+1=>lW l j
theorem Qj(l:List Oper)(j:Nat):Bw ⟨l⟩ j=lW l j:=by unfold Bw;simp only[List.getElem?_toArray];induction l generalizing j with|nil=>(simp[lW])|cons o l ih=>cases j with|zero=>(simp[lW])|succ j=>simpa[lW]using ih j
def GO(C:aB)(f:FuncId)(call:FuncId→List U→Option (U×List U))(S:ah)(o:Oper):Option Bool→Option aT|some g=>y2 C f call S o g|none=>none
@[simp]theorem yO(o:Oper)(g:Bool):GO C f call S o (some g)=y2 C f call S o g:=rfl
def zc:List (Nat×U)→Bool→List (Nat×U)|[],_=>[]|x::l,g=>(x.1, .cF g x.2)::zc l g
def Bo(o:Oper)(g:Bool):Option aT→Option aT|some e=>if e.wr.isEmpty then some ⟨zc e.cO g,e.rd,e.wr⟩else if g then some e else some (tW o)|none=>if g then none else some (tW o)
theorem RW(l:List (Nat×U))(g:Bool):zc l g=l.map fun x=>(x.1, .cF g x.2):=by induction l with|nil=>(rfl)|cons x l ih=>simp[zc,ih]
@[simp]theorem y3(o:Oper)(g:Bool):y2 C f call S o g=Bo o g (bn C f call S g o):=by unfold y2 Bo;split<;>simp_all[RW]
@[simp]theorem ZM(o:Oper)(g:Bool)(t:Nat)(v:U)(rd:List Id):Bo o g (some ⟨[(t,v)],rd,[]⟩)=some ⟨[(t, .cF g v)],rd,[]⟩:=rfl
@[simp]theorem yZ{op:Op}{j:Nat}{w:Bool}{l:List Oper}:pR C f call S ⟨l⟩ ⟨d,op,ty,pos,aM,some (j,w)⟩=GO C f call S ⟨d,op,ty,pos,aM,some (j,w)⟩ (oD w S (lW l j)):=by rw[←Qj];unfold pR nK Bw;simp only;cases((⟨l⟩:Array Oper)[j]?).bind (·.dst)with|none=>(rfl)|some d=>simp only[HP];cases S.t d with|val v=>(cases v<;>rfl)|cF g x=>(cases x with|val v=>(cases v<;>cases g<;>rfl)|_=>cases g<;>rfl)|_=>rfl
@[simp]theorem aaD(w:Bool)(x:U):tn w (.cF false x)=some false:=by cases x with|val v=>(cases v<;>rfl)|_=>rfl
variable{op:Op}
@[simp]theorem ab6{t:Nat}(v:U):ret ⟨some t,op,ty,pos,aM,bp⟩ v=some ⟨[(t,v)],[],[]⟩:=rfl
@[simp]theorem abZ{t:Nat}(v:U)(rd:List Id)(wr:List (Id×Option Rows)):put ⟨some t,op,ty,pos,aM,bp⟩ v rd wr=⟨[(t,v)],rd,wr⟩:=rfl
@[simp]theorem abY(v:U)(rd:List Id)(wr:List (Id×Option Rows)):put ⟨none,op,ty,pos,aM,bp⟩ v rd wr=⟨[],rd,wr⟩:=rfl
@[simp]theorem ab5(o:Oper)(v:Value):jn o (some v)=if dw v then ret o (.val v)else none:=rfl
@[simp]theorem aa5(k:IntKind)(n:Int):dw (.int k n)=true:=rfl
@[simp]theorem aa4(b:Bool):dw (.bool b)=true:=rfl
@[simp]theorem aa6(b:ByteArray):dw (.string b)=true:=rfl
@[simp]theorem ZX(o:Oper)(h x y:Bool):pV o (.val (.bool h)) (.val (.bool x)) (.val (.bool y))=ret o (.val (.bool (if h then x else y))):=rfl
@[simp]theorem acM(v:Value):lD (.val v)=some v:=rfl
@[simp]theorem acL(c:List U):lD (.agg c)=(gk c).map fun vs=> .agg ⟨vs⟩:=rfl
@[simp]theorem acO:gk []=some []:=rfl
@[simp]theorem acN(v:Value)(l:List U):gk (.val v::l)=(gk l).map (v::·):=rfl
@[simp]theorem aa3(k:IntKind)(n:Int):dA (.val (.int k n))=some n:=rfl
@[simp]theorem ZV{o:Oper}{op:BinOp}{t:TypeId}{x y:Operand}{dV fO:Value}:ov C o op t x y (.val dV) (.val fO)=jn o (dM C.P op t x y dV fO):=rfl
@[simp]theorem ZY{o:Oper}{op:UnOp}{dV:Value}:q9 C o op (.val dV)=jn o (x4 C.P op dV):=rfl
theorem Qy{o:Oper}{s t:TypeId}{dV:Value}(h:pL C s t=false):ox C o s t (.val dV)=jn o (yP C.P s t dV):=by simp[ox,h,vq]
variable{P:Program}{t:TypeId}{x y:Operand}{k:IntKind}{a b:Int}
@[simp]theorem OB:dM P .add t x y (.int k a) (.int k b)=some (.int k (k.wrap (a+b))):=by simp[dM,eqGuard,binOp,Op.intArith,cu,bind,Sem.bind,pure]
@[simp]theorem OO:dM P .sub t x y (.int k a) (.int k b)=some (.int k (k.wrap (a-b))):=by simp[dM,eqGuard,binOp,Op.intArith,cu,bind,Sem.bind,pure]
@[simp]theorem OJ:dM P .mul t x y (.int k a) (.int k b)=some (.int k (k.wrap (a*b))):=by simp[dM,eqGuard,binOp,Op.intArith,cu,bind,Sem.bind,pure]
@[simp]theorem OD:dM P .eql t x y (.int k a) (.int k b)=some (.bool (a==b)):=by simp[dM,eqGuard,binOp,Op.intCmp,cu,bind,Sem.bind,pure]
@[simp]theorem OK:dM P .neq t x y (.int k a) (.int k b)=some (.bool (a !=b)):=by simp[dM,eqGuard,binOp,Op.intCmp,cu,bind,Sem.bind,pure]
@[simp]theorem OI:dM P .lss t x y (.int k a) (.int k b)=some (.bool (decide (a<b))):=by simp[dM,eqGuard,binOp,Op.intCmp,cu,bind,Sem.bind,pure]
@[simp]theorem OH:dM P .leq t x y (.int k a) (.int k b)=some (.bool (decide (a≤b))):=by simp[dM,eqGuard,binOp,Op.intCmp,cu,bind,Sem.bind,pure]
@[simp]theorem OG:dM P .gtr t x y (.int k a) (.int k b)=some (.bool (decide (b<a))):=by simp[dM,eqGuard,binOp,Op.intCmp,cu,bind,Sem.bind,pure]
@[simp]theorem OF:dM P .geq t x y (.int k a) (.int k b)=some (.bool (decide (b≤a))):=by simp[dM,eqGuard,binOp,Op.intCmp,cu,bind,Sem.bind,pure]
@[simp]theorem adl{b:Bool}:x4 P .not (.bool b)=some (.bool !b):=rfl
@[simp]theorem aa9{α β:Type}(c:Prop)[Decidable c](a b:Option α)(k:α→Option β):(if c then a else b).bind k=if c then a.bind k else b.bind k:=by split<;>rfl
@[simp]theorem aba{α β:Type}(c:Prop)[Decidable c](a b:Option α)(k:α→β):(if c then a else b).map k=if c then a.map k else b.map k:=by split<;>rfl
/-! ### Ends -/
variable{L:Id→Option (Option Rows)}{n:Nat}
@[simp]theorem abK(v:Value):pk L (n+1) (.val v)=some (.val v,[]):=rfl
@[simp]theorem abI(r:Rows):pk L (n+1) (.sl r)=some (.sl r,[]):=rfl
@[simp]theorem abL(r:List U):pk L (n+1) (.aL r)=some (.aL r,[]):=rfl
@[simp]theorem abJ:pk L (n+1) .bQ=some (.own [] 0,[]):=rfl
@[simp]theorem abH:pk L (n+1) .aU=some (.aU,[]):=rfl
@[simp]theorem aa1(p:Id)(v:Value):imp p (.val v)=(.val v,[]):=rfl
@[simp]theorem aa0(p:Id)(r:Rows):imp p (.sl r)=(.sl r,[]):=rfl
@[simp]theorem aa2(p:Id)(r:List U):imp p (.aL r)=(.aL r,[]):=rfl
@[simp]theorem aaY(p:Id):imp p .aU=(.aU,[]):=rfl
@[simp]theorem aaZ(p:Id)(r:Rows)(m:Nat):imp p (.own r m)=(.rs p 0 m,[(p,some r)]):=rfl
@[simp]theorem aam:dz []=true:=rfl
@[simp]theorem aal(r:List U)(l:Rows):dz (r::l)=(cp r&&dz l):=by simp[dz]
@[simp]theorem QX:cp []=true:=rfl
@[simp]theorem QW(r:U)(l:List U):cp (r::l)=(flat r&&cp l):=by simp[cp]
@[simp]theorem Q3(v:Value):flat (.val v)=true:=by simp[flat]
@[simp]theorem Q2(v:Rows):flat (.sl v)=true:=by simp[flat]
@[simp]theorem Q0(v:Rows):flat (.dJ v)=true:=by simp[flat]
@[simp]theorem QZ(v:Rows):flat (.im v)=true:=by simp[flat]
@[simp]theorem aan(v:List U):flat (.aL v)=true:=by simp[flat]
@[simp]theorem Q1(v:Rows)(m:Nat):flat (.own v m)=dz v:=by simp[flat]
theorem QY{α:Type}(g:α→List U)(l:List α)(h:∀x,cp (g x)=true):dz (l.map g)=true:=by induction l with|nil=>(simp)|cons x l ih=>simp[h,ih]
theorem Xr{id:Id}{len:Nat}{rows:Rows}(h:L id=some (some rows))(hl:len≤rows.length)(hf:dz rows=true):pk L (n+1) (.rs id 0 len)=some (.own rows len,[id]):=by simp[pk,mo,h,hl,hf]
@[simp]theorem XV(m:Nat)(t:Nat→U)(h:Id→Option (Option Rows))(slots:List Nat):gA ⟨m,t,h⟩ slots=(gQ h t slots).bind fun x=>if de x.2 then some x.1 else none:=by unfold gA;dsimp only;cases gQ h t slots<;>rfl
@[simp]theorem abo(t:Nat→U):gQ L t []=some ([],[]):=rfl
@[simp]theorem Xc(t:Nat→U)(s:Nat)(l:List Nat):gQ L t (s::l)=(pk L 9 (t s)).bind fun x=>(gQ L t l).map fun y=>(x.1::y.1,x.2++y.2):=rfl
@[simp]theorem abj(m:Nat)(v:List U):aI m [] v=⟨m,fun _=> .aU,fun _=>none⟩:=rfl
@[simp]theorem abi(m s:Nat)(l:List Nat)(v:U)(vs:List U):aI m (s::l) (v::vs)=⟨m,ai (aI m l vs).t s (imp [s] v).1,aQ (aI m l vs).h (imp [s] v).2⟩:=rfl
@[simp]theorem ab2{t:Nat}:qB C S (.tmp t)=pk S.h 9 (un true (S.t t)):=rfl
@[simp]theorem ab4:iD C S []=some ([],[]):=rfl
@[simp]theorem ab3{r:ResultVar}{l:List ResultVar}:iD C S (r::l)=(qB C S r).bind fun x=>(iD C S l).map fun y=>(x.1::y.1,x.2++y.2):=rfl
end
end Go.Ab
