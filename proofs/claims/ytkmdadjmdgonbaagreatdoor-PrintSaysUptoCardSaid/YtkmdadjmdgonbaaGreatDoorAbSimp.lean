import Derived.Test.YtkmdadjmdgonbaaGreatDoorAbOps7
set_option linter.all false
namespace Go.Ab
open Go
abbrev I(n:Int):U:= .val (.int .i64 n)
abbrev B(b:Bool):U:= .val (.bool b)
section
variable{C:aC}{f:FuncId}{call:FuncId->List U->Option (U×List U)}{S:ah}{g:Bool}{ops:Array Oper}
variable{ρ:Type}{d:Option Tmp}{ty:TypeId}{pos:String}{bl:Array Edge}{bO:Option (Nat×Bool)}
@[simp]theorem ano{α β:Type}[DecidableEq α](f:α->β)(k j:α)(v:β):ax f k v j=if j=k then v else f j:=rfl
@[simp]theorem ann(t:Nat->U):dn t []=t:=rfl
@[simp]theorem anm(t:Nat->U)(i:Nat)(v:U)(l:List (Nat×U)):dn t ((i,v)::l)=ax (dn t l) i v:=rfl
@[simp]theorem anl(h:Id->Option (Option Rows)):bu h []=h:=rfl
@[simp]theorem ank(h:Id->Option (Option Rows))(i:Id)(v:Option Rows)(l:List (Id×Option Rows)):bu h ((i,v)::l)=ax (bu h l) i (some v):=rfl
@[simp]theorem aiv(n:Nat)(t:Nat->U)(h:Id->Option (Option Rows))(dR:List (Nat×U))(rd:List Id)(wr:List (Id×Option Rows)):ah.app ⟨n,t,h⟩ ⟨dR,rd,wr⟩=⟨n,dn t dR,bu h wr⟩:=rfl
/-! ### Operands, guards -/
@[simp]theorem aj4(t:Nat):S.get C (.tmp t)=S.t t:=rfl
@[simp]theorem ajY(k:IntKind)(n:Int):S.get C (.const (.int k n))= .val (.int k n):=rfl
@[simp]theorem ajV(b:Bool):S.get C (.const (.bool b))= .val (.bool b):=rfl
@[simp]theorem aj3(s:ByteArray):S.get C (.const (.string s))= .val (.string s):=rfl
@[simp]theorem aj1:S.get C (.const (.pointer none))= .val (.pointer none):=rfl
@[simp]theorem aj2:S.get C (.const (.slice none 0 0))= .cG:=rfl
@[simp]theorem aj0:S.get C (.const .nilIface)= .val .nilIface:=rfl
@[simp]theorem ajZ:S.get C (.const .nilFunc)= .val .nilFunc:=rfl
@[simp]theorem ajW(k:FuncId):S.get C (.func k)= .fn (.func k) [] []:=rfl
@[simp]theorem ajX(k:Nat):S.get C (.global k)=match C.dW k with|some cs=>mV cs|none=> .bD:=rfl
@[simp]theorem anf(v:Value):un g (.val v)= .val v:=rfl
@[simp]theorem am9(r:Rows):un g (.sl r)= .sl r:=rfl
@[simp]theorem ang(c:List U):un g (.aT c)= .aT c:=rfl
@[simp]theorem ana:un g .cG= .cG:=rfl
@[simp]theorem am8(i:Id)(a b:Nat):un g (.rs i a b)= .rs i a b:=rfl
@[simp]theorem am4(i:Id)(a b:Nat):un g (.mp i a b)= .mp i a b:=rfl
@[simp]theorem amX(k:Fn)(a b:List U):un g (.fn k a b)= .fn k a b:=rfl
@[simp]theorem amS(c:List U):un g (.agg c)= .agg c:=rfl
@[simp]theorem ane(c:List U):un g (.aV c)= .aV c:=rfl
@[simp]theorem amY:un g .bD= .bD:=rfl
@[simp]theorem am6(r:Rows)(m:Nat):un g (.own r m)= .own r m:=rfl
@[simp]theorem S5(x:U):un g (.dw g x)=x:=by cases g<;>rfl
@[simp]theorem anc(x:U):un g (.dw true x)=x:=by cases g<;>rfl
@[simp]theorem amT(h:Bool)(x:U):un (g&&h) (.dw g x)=x:=by cases g<;>cases h<;>rfl
@[simp]theorem amU(h:Bool)(x:U):un (g&&h) (.dw (g&&h) x)=x:=S5 x
@[simp]theorem amV(h:Bool)(x:U):un (g&&h) (.dw h x)=x:=by cases g<;>cases h<;>rfl
@[simp]theorem amW(h k:Bool)(x:U):un (g&&h&&k) (.dw g x)=x:=by cases g<;>cases h<;>cases k<;>rfl
@[simp]theorem aiz(b:Bool):mR (.val (.bool b))=b:=rfl
@[simp]theorem aji{op:Op}:sM C f call S ops ⟨d,op,ty,pos,bl,none⟩=bS C f call S true ⟨d,op,ty,pos,bl,none⟩:=rfl
def FE(C:aC)(f:FuncId)(call:FuncId->List U->Option (U×List U))(S:ah)(o:Oper)(g:Bool):Option aP:=match bS C f call S g o with|some e=>if e.wr.isEmpty then some {e with dR:=e.dR.map fun x=>(x.1, .dw g x.2)}else if g then some e else some (zT o)|none=>if g then none else some (zT o)
def zC(want:Bool):U->Option Bool| .val (.bool b)=>some (b==want)| .dw g (.val (.bool b))=>some (g&&(b==want))| .dw false _=>some false|_=>none
@[simp]theorem aj8(w b:Bool):zC w (.val (.bool b))=some (b==w):=rfl
@[simp]theorem aj6(w b g:Bool):zC w (.dw g (.val (.bool b)))=some (g&&(b==w)):=rfl
def zB(w:Bool)(S:ah):Option Nat->Option Bool|some d=>zC w (S.t d)|none=>none
@[simp]theorem O6(w:Bool)(d:Nat):zB w S (some d)=zC w (S.t d):=rfl
def IT(ops:Array Oper)(j:Nat):Option Nat:=(ops[j]?).bind (·.dst)
def sF:List Oper->Nat->Option Nat|[],_=>none|o::_,0=>o.dst|_::l,j+1=>sF l j
theorem YG(l:List Oper)(j:Nat):IT ⟨l⟩ j=sF l j:=by unfold IT;simp only[List.getElem?_toArray];induction l generalizing j with|nil=>(simp[sF])|cons o l ih=>cases j with|zero=>(simp[sF])|succ j=>simpa[sF]using ih j
def NY(C:aC)(f:FuncId)(call:FuncId->List U->Option (U×List U))(S:ah)(o:Oper):Option Bool->Option aP|some g=>FE C f call S o g|none=>none
@[simp]theorem NZ(o:Oper)(g:Bool):NY C f call S o (some g)=FE C f call S o g:=rfl
def FU:List (Nat×U)->Bool->List (Nat×U)|[],_=>[]|x::l,g=>(x.1, .dw g x.2)::FU l g
def IK(o:Oper)(g:Bool):Option aP->Option aP|some e=>if e.wr.isEmpty then some ⟨FU e.dR g,e.rd,e.wr⟩else if g then some e else some (zT o)|none=>if g then none else some (zT o)
theorem aac(l:List (Nat×U))(g:Bool):FU l g=l.map fun x=>(x.1, .dw g x.2):=by induction l with|nil=>(rfl)|cons x l ih=>simp[FU,ih]
@[simp]theorem Oy(o:Oper)(g:Bool):FE C f call S o g=IK o g (bS C f call S g o):=by unfold FE IK;split<;>simp_all[aac]
@[simp]theorem ai6(o:Oper)(g:Bool)(t:Nat)(v:U)(rd:List Id):IK o g (some ⟨[(t,v)],rd,[]⟩)=some ⟨[(t, .dw g v)],rd,[]⟩:=rfl
@[simp]theorem Ox{op:Op}{j:Nat}{w:Bool}{l:List Oper}:sM C f call S ⟨l⟩ ⟨d,op,ty,pos,bl,some (j,w)⟩=NY C f call S ⟨d,op,ty,pos,bl,some (j,w)⟩ (zB w S (sF l j)):=by rw[<-YG];unfold sM qq IT;simp only;cases((⟨l⟩:Array Oper)[j]?).bind (·.dst)with|none=>(rfl)|some d=>simp only[O6];cases S.t d with|val v=>(cases v<;>rfl)|dw g x=>(cases x with|val v=>(cases v<;>cases g<;>rfl)|_=>cases g<;>rfl)|_=>rfl
@[simp]theorem aj7(w:Bool)(x:U):zC w (.dw false x)=some false:=by cases x with|val v=>(cases v<;>rfl)|_=>rfl
variable{op:Op}
@[simp]theorem alU{t:Nat}(v:U):ret ⟨some t,op,ty,pos,bl,bO⟩ v=some ⟨[(t,v)],[],[]⟩:=rfl
@[simp]theorem alN{t:Nat}(v:U)(rd:List Id)(wr:List (Id×Option Rows)):put ⟨some t,op,ty,pos,bl,bO⟩ v rd wr=⟨[(t,v)],rd,wr⟩:=rfl
@[simp]theorem alM(v:U)(rd:List Id)(wr:List (Id×Option Rows)):put ⟨none,op,ty,pos,bl,bO⟩ v rd wr=⟨[],rd,wr⟩:=rfl
@[simp]theorem alT(o:Oper)(v:Value):lE o (some v)=if fZ v then ret o (.val v)else none:=rfl
@[simp]theorem akC(k:IntKind)(n:Int):fZ (.int k n)=true:=rfl
@[simp]theorem akB(b:Bool):fZ (.bool b)=true:=rfl
@[simp]theorem akD(b:ByteArray):fZ (.string b)=true:=rfl
@[simp]theorem ajj(o:Oper)(h x y:Bool):uE o (.val (.bool h)) (.val (.bool x)) (.val (.bool y))=ret o (.val (.bool (if h then x else y))):=rfl
@[simp]theorem amw(v:Value):nt (.val v)=some v:=rfl
@[simp]theorem amv(c:List U):nt (.agg c)=(iY c).map fun vs=> .agg ⟨vs⟩:=rfl
@[simp]theorem amy:iY []=some []:=rfl
@[simp]theorem amx(v:Value)(l:List U):iY (.val v::l)=(iY l).map (v::·):=rfl
@[simp]theorem akA(k:IntKind)(n:Int):eP (.val (.int k n))=some n:=rfl
@[simp]theorem ajg{o:Oper}{op:BinOp}{t:TypeId}{x y:Operand}{eT iq:Value}:sJ C o op t x y (.val eT) (.val iq)=lE o (ez C.P op t x y eT iq):=rfl
@[simp]theorem ajk{o:Oper}{op:UnOp}{eT:Value}:wA C o op (.val eT)=lE o (ED C.P op eT):=rfl
theorem YY{o:Oper}{s t:TypeId}{eT:Value}(h:uq C s t=false):sL C o s t (.val eT)=lE o (Fv C.P s t eT):=by simp[sL,h,B7]
variable{P:Program}{t:TypeId}{x y:Operand}{k:IntKind}{a b:Int}
@[simp]theorem WI:ez P .add t x y (.int k a) (.int k b)=some (.int k (k.wrap (a+b))):=by simp[ez,eqGuard,binOp,Op.intArith,c6,bind,Sem.bind,pure]
@[simp]theorem WX:ez P .sub t x y (.int k a) (.int k b)=some (.int k (k.wrap (a-b))):=by simp[ez,eqGuard,binOp,Op.intArith,c6,bind,Sem.bind,pure]
@[simp]theorem WS:ez P .mul t x y (.int k a) (.int k b)=some (.int k (k.wrap (a*b))):=by simp[ez,eqGuard,binOp,Op.intArith,c6,bind,Sem.bind,pure]
@[simp]theorem WK:ez P .eql t x y (.int k a) (.int k b)=some (.bool (a==b)):=by simp[ez,eqGuard,binOp,Op.intCmp,c6,bind,Sem.bind,pure]
@[simp]theorem WT:ez P .neq t x y (.int k a) (.int k b)=some (.bool (a !=b)):=by simp[ez,eqGuard,binOp,Op.intCmp,c6,bind,Sem.bind,pure]
@[simp]theorem WR:ez P .lss t x y (.int k a) (.int k b)=some (.bool (decide (a<b))):=by simp[ez,eqGuard,binOp,Op.intCmp,c6,bind,Sem.bind,pure]
@[simp]theorem WQ:ez P .leq t x y (.int k a) (.int k b)=some (.bool (decide (a<=b))):=by simp[ez,eqGuard,binOp,Op.intCmp,c6,bind,Sem.bind,pure]
@[simp]theorem WO:ez P .gtr t x y (.int k a) (.int k b)=some (.bool (decide (b<a))):=by simp[ez,eqGuard,binOp,Op.intCmp,c6,bind,Sem.bind,pure]
@[simp]theorem WN:ez P .geq t x y (.int k a) (.int k b)=some (.bool (decide (b<=a))):=by simp[ez,eqGuard,binOp,Op.intCmp,c6,bind,Sem.bind,pure]
@[simp]theorem am5{b:Bool}:ED P .not (.bool b)=some (.bool !b):=rfl
@[simp]theorem akG{α β:Type}(c:Prop)[Decidable c](a b:Option α)(k:α->Option β):(if c then a else b).bind k=if c then a.bind k else b.bind k:=by split<;>rfl
@[simp]theorem akH{α β:Type}(c:Prop)[Decidable c](a b:Option α)(k:α->β):(if c then a else b).map k=if c then a.map k else b.map k:=by split<;>rfl
/-! ### Ends -/
variable{L:Id->Option (Option Rows)}{n:Nat}
@[simp]theorem alB(v:Value):pk L (n+1) (.val v)=some (.val v,[]):=rfl
@[simp]theorem alz(r:Rows):pk L (n+1) (.sl r)=some (.sl r,[]):=rfl
@[simp]theorem alC(r:List U):pk L (n+1) (.aT r)=some (.aT r,[]):=rfl
@[simp]theorem alA:pk L (n+1) .cG=some (.own [] 0,[]):=rfl
@[simp]theorem aly:pk L (n+1) .bD=some (.bD,[]):=rfl
@[simp]theorem aky(p:Id)(v:Value):imp p (.val v)=(.val v,[]):=rfl
@[simp]theorem akx(p:Id)(r:Rows):imp p (.sl r)=(.sl r,[]):=rfl
@[simp]theorem akz(p:Id)(r:List U):imp p (.aT r)=(.aT r,[]):=rfl
@[simp]theorem akv(p:Id):imp p .bD=(.bD,[]):=rfl
@[simp]theorem akw(p:Id)(r:Rows)(m:Nat):imp p (.own r m)=(.rs p 0 m,[(p,some r)]):=rfl
@[simp]theorem ajL:eY []=true:=rfl
@[simp]theorem ajK(r:List U)(l:Rows):eY (r::l)=(dz r&&eY l):=by simp[eY]
@[simp]theorem ajJ:dz []=true:=rfl
@[simp]theorem ajI(r:U)(l:List U):dz (r::l)=(flat r&&dz l):=by simp[dz]
@[simp]theorem ajQ(v:Value):flat (.val v)=true:=by simp[flat]
@[simp]theorem ajP(v:Rows):flat (.sl v)=true:=by simp[flat]
@[simp]theorem ajN(v:Rows):flat (.eN v)=true:=by simp[flat]
@[simp]theorem ajM(v:Rows):flat (.im v)=true:=by simp[flat]
@[simp]theorem ajR(v:List U):flat (.aT v)=true:=by simp[flat]
@[simp]theorem ajO(v:Rows)(m:Nat):flat (.own v m)=eY v:=by simp[flat]
theorem Zn{α:Type}(g:α->List U)(l:List α)(h:∀x,dz (g x)=true):eY (l.map g)=true:=by induction l with|nil=>(simp)|cons x l ih=>simp[h,ih]
theorem ae1{id:Id}{len:Nat}{rows:Rows}(h:L id=some (some rows))(hl:len<=rows.length)(hf:eY rows=true):pk L (n+1) (.rs id 0 len)=some (.own rows len,[id]):=by simp[pk,pO,h,hl,hf]
@[simp]theorem afU(m:Nat)(t:Nat->U)(h:Id->Option (Option Rows))(slots:List Nat):jn ⟨m,t,h⟩ slots=(jW h t slots).bind fun x=>if eF x.2 then some x.1 else none:=by unfold jn;dsimp only;cases jW h t slots<;>rfl
@[simp]theorem ale(t:Nat->U):jW L t []=some ([],[]):=rfl
@[simp]theorem aeL(t:Nat->U)(s:Nat)(l:List Nat):jW L t (s::l)=(pk L 9 (t s)).bind fun x=>(jW L t l).map fun y=>(x.1::y.1,x.2++y.2):=rfl
@[simp]theorem akV(m:Nat)(v:List U):aD m [] v=⟨m,fun _=> .bD,fun _=>none⟩:=rfl
@[simp]theorem akU(m s:Nat)(l:List Nat)(v:U)(vs:List U):aD m (s::l) (v::vs)=⟨m,ax (aD m l vs).t s (imp [s] v).1,bu (aD m l vs).h (imp [s] v).2⟩:=rfl
@[simp]theorem alQ{t:Nat}:vv C S (.tmp t)=pk S.h 9 (un true (S.t t)):=rfl
@[simp]theorem alS:kT C S []=some ([],[]):=rfl
@[simp]theorem alR{r:ResultVar}{l:List ResultVar}:kT C S (r::l)=(vv C S r).bind fun x=>(kT C S l).map fun y=>(x.1::y.1,x.2++y.2):=rfl
end
end Go.Ab
