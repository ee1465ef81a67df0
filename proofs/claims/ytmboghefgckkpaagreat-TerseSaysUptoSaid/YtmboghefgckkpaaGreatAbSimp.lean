import Derived.Test.YtmboghefgckkpaaGreatAbBase
namespace Go.Ab
open Go
abbrev I(n:Int):aa:= .val (.int .i64 n)
abbrev B(b:Bool):aa:= .val (.bool b)
section
variable{C:aU}{f:FuncId}{call:FuncId→List aa→Option (aa×List aa)}{S:an}{g:Bool}{ops:Array Oper}
variable{ρ:Type}{d:Option Tmp}{ty:TypeId}{pos:String}{bn:Array Edge}{bP:Option (Nat×Bool)}
@[simp]theorem atn{α β:Type}[DecidableEq α](f:α→β)(k j:α)(v:β):aC f k v j=if j=k then v else f j:=rfl
@[simp]theorem atm(t:Nat→aa):dF t []=t:=rfl
@[simp]theorem atl(t:Nat→aa)(i:Nat)(v:aa)(l:List (Nat×aa)):dF t ((i,v)::l)=aC (dF t l) i v:=rfl
@[simp]theorem atk(h:Id→Option (Option Rows)):bD h []=h:=rfl
@[simp]theorem atj(h:Id→Option (Option Rows))(i:Id)(v:Option Rows)(l:List (Id×Option Rows)):bD h ((i,v)::l)=aC (bD h l) i (some v):=rfl
@[simp]theorem aoy(n:Nat)(t:Nat→aa)(h:Id→Option (Option Rows))(ek:List (Nat×aa))(rd:List Id)(wr:List (Id×Option Rows)):an.app ⟨n,t,h⟩ ⟨ek,rd,wr⟩=⟨n,dF t ek,bD h wr⟩:=rfl
/-! ### Operands, guards -/
@[simp]theorem apW(t:Nat):S.get C (.tmp t)=S.t t:=rfl
@[simp]theorem apQ(k:IntKind)(n:Int):S.get C (.const (.int k n))= .val (.int k n):=rfl
@[simp]theorem apN(b:Bool):S.get C (.const (.bool b))= .val (.bool b):=rfl
@[simp]theorem apV(s:ByteArray):S.get C (.const (.string s))= .val (.string s):=rfl
@[simp]theorem apT:S.get C (.const (.pointer none))= .val (.pointer none):=rfl
@[simp]theorem apU:S.get C (.const (.slice none 0 0))= .cE:=rfl
@[simp]theorem apS:S.get C (.const .nilIface)= .val .nilIface:=rfl
@[simp]theorem apR:S.get C (.const .nilFunc)= .val .nilFunc:=rfl
@[simp]theorem apO(k:FuncId):S.get C (.func k)= .fn (.func k) [] []:=rfl
@[simp]theorem apP(k:Nat):S.get C (.global k)=match C.cP k with|some cs=> .ax cs|none=> .bH:=rfl
@[simp]theorem atf(v:Value):un g (.val v)= .val v:=rfl
@[simp]theorem ata(r:Rows):un g (.sl r)= .sl r:=rfl
@[simp]theorem atg(c:List aa):un g (.ax c)= .ax c:=rfl
@[simp]theorem atb:un g .cE= .cE:=rfl
@[simp]theorem as9(i:Id)(a b:Nat):un g (.rs i a b)= .rs i a b:=rfl
@[simp]theorem as6(i:Id)(a b:Nat):un g (.mp i a b)= .mp i a b:=rfl
@[simp]theorem asZ(k:Fn)(a b:List aa):un g (.fn k a b)= .fn k a b:=rfl
@[simp]theorem asU(c:List aa):un g (.agg c)= .agg c:=rfl
@[simp]theorem ate(c:List aa):un g (.bG c)= .bG c:=rfl
@[simp]theorem as0:un g .bH= .bH:=rfl
@[simp]theorem as8(r:Rows)(m:Nat):un g (.own r m)= .own r m:=rfl
@[simp]theorem Xi(x:aa):un g (.dM g x)=x:=by cases g<;>rfl
@[simp]theorem atd(x:aa):un g (.dM true x)=x:=by cases g<;>rfl
@[simp]theorem asV(h:Bool)(x:aa):un (g&&h) (.dM g x)=x:=by cases g<;>cases h<;>rfl
@[simp]theorem asW(h:Bool)(x:aa):un (g&&h) (.dM (g&&h) x)=x:=Xi x
@[simp]theorem asX(h:Bool)(x:aa):un (g&&h) (.dM h x)=x:=by cases g<;>cases h<;>rfl
@[simp]theorem asY(h k:Bool)(x:aa):un (g&&h&&k) (.dM g x)=x:=by cases g<;>cases h<;>cases k<;>rfl
@[simp]theorem aoA(b:Bool):nK (.val (.bool b))=b:=rfl
@[simp]theorem ao0{op:Op}:wO C f call S ops ⟨d,op,ty,pos,bn,none⟩=bN C f call S true ⟨d,op,ty,pos,bn,none⟩:=rfl
def Je(C:aU)(f:FuncId)(call:FuncId→List aa→Option (aa×List aa))(S:an)(o:Oper)(g:Bool):Option bE:=match bN C f call S g o with|some e=>if e.wr.isEmpty then some {e with ek:=e.ek.map fun x=>(x.1, .dM g x.2)}else if g then some e else some (Cb o)|none=>if g then none else some (Cb o)
def BL(want:Bool):aa→Option Bool| .val (.bool b)=>some (b==want)| .dM g (.val (.bool b))=>some (g&&(b==want))| .dM false _=>some false|_=>none
@[simp]theorem apZ(w b:Bool):BL w (.val (.bool b))=some (b==w):=rfl
@[simp]theorem apX(w b g:Bool):BL w (.dM g (.val (.bool b)))=some (g&&(b==w)):=rfl
def vn(w:Bool)(S:an):Option Nat→Option Bool|some d=>BL w (S.t d)|none=>none
@[simp]theorem S4(w:Bool)(d:Nat):vn w S (some d)=BL w (S.t d):=rfl
def Ma(ops:Array Oper)(j:Nat):Option Nat:=(ops[j]?).bind (·.dst)
def qU:List Oper→Nat→Option Nat|[],_=>none|o::_,0=>o.dst|_::l,j+1=>qU l j
theorem adO(l:List Oper)(j:Nat):Ma ⟨l⟩ j=qU l j:=by unfold Ma;simp only[List.getElem?_toArray];induction l generalizing j with|nil=>(simp[qU])|cons o l ih=>cases j with|zero=>(simp[qU])|succ j=>simpa[qU]using ih j
def RJ(C:aU)(f:FuncId)(call:FuncId→List aa→Option (aa×List aa))(S:an)(o:Oper):Option Bool→Option bE|some g=>Je C f call S o g|none=>none
@[simp]theorem I4(o:Oper)(g:Bool):RJ C f call S o (some g)=Je C f call S o g:=rfl
def JB:List (Nat×aa)→Bool→List (Nat×aa)|[],_=>[]|x::l,g=>(x.1, .dM g x.2)::JB l g
def L4(o:Oper)(g:Bool):Option bE→Option bE|some e=>if e.wr.isEmpty then some ⟨JB e.ek g,e.rd,e.wr⟩else if g then some e else some (Cb o)|none=>if g then none else some (Cb o)
theorem afk(l:List (Nat×aa))(g:Bool):JB l g=l.map fun x=>(x.1, .dM g x.2):=by induction l with|nil=>(rfl)|cons x l ih=>simp[JB,ih]
@[simp]theorem Jf(o:Oper)(g:Bool):Je C f call S o g=L4 o g (bN C f call S g o):=by unfold Je L4;split<;>simp_all[afk]
@[simp]theorem aoQ(o:Oper)(g:Bool)(t:Nat)(v:aa)(rd:List Id):L4 o g (some ⟨[(t,v)],rd,[]⟩)=some ⟨[(t, .dM g v)],rd,[]⟩:=rfl
@[simp]theorem Jd{op:Op}{j:Nat}{w:Bool}{l:List Oper}:wO C f call S ⟨l⟩ ⟨d,op,ty,pos,bn,some (j,w)⟩=RJ C f call S ⟨d,op,ty,pos,bn,some (j,w)⟩ (vn w S (qU l j)):=by rw[←adO];unfold wO tG Ma;simp only;cases((⟨l⟩:Array Oper)[j]?).bind (·.dst)with|none=>(rfl)|some d=>simp only[S4];cases S.t d with|val v=>(cases v<;>rfl)|dM g x=>(cases x with|val v=>(cases v<;>cases g<;>rfl)|_=>cases g<;>rfl)|_=>rfl
@[simp]theorem apY(w:Bool)(x:aa):BL w (.dM false x)=some false:=by cases x with|val v=>(cases v<;>rfl)|_=>rfl
variable{op:Op}
@[simp]theorem arT{t:Nat}(v:aa):ret ⟨some t,op,ty,pos,bn,bP⟩ v=some ⟨[(t,v)],[],[]⟩:=rfl
@[simp]theorem arN{t:Nat}(v:aa)(rd:List Id)(wr:List (Id×Option Rows)):put ⟨some t,op,ty,pos,bn,bP⟩ v rd wr=⟨[(t,v)],rd,wr⟩:=rfl
@[simp]theorem arM(v:aa)(rd:List Id)(wr:List (Id×Option Rows)):put ⟨none,op,ty,pos,bn,bP⟩ v rd wr=⟨[],rd,wr⟩:=rfl
@[simp]theorem arS(o:Oper)(v:Value):mR o (some v)=if e4 v then ret o (.val v)else none:=rfl
@[simp]theorem aqN(k:IntKind)(n:Int):e4 (.int k n)=true:=rfl
@[simp]theorem aqM(b:Bool):e4 (.bool b)=true:=rfl
@[simp]theorem aqO(b:ByteArray):e4 (.string b)=true:=rfl
@[simp]theorem ao1(o:Oper)(h x y:Bool):wQ o (.val (.bool h)) (.val (.bool x)) (.val (.bool y))=ret o (.val (.bool (if h then x else y))):=rfl
@[simp]theorem asu(v:Value):o9 (.val v)=some v:=rfl
@[simp]theorem ast(c:List aa):o9 (.agg c)=(kD c).map fun vs=> .agg ⟨vs⟩:=rfl
@[simp]theorem asw:kD []=some []:=rfl
@[simp]theorem asv(v:Value)(l:List aa):kD (.val v::l)=(kD l).map (v::·):=rfl
@[simp]theorem aqL(k:IntKind)(n:Int):fl (.val (.int k n))=some n:=rfl
@[simp]theorem aoZ{o:Oper}{op:BinOp}{t:TypeId}{x y:Operand}{jC uM:Value}:tv C o op t x y (.val jC) (.val uM)=mR o (eZ C.P op t x y jC uM):=rfl
@[simp]theorem ao2{o:Oper}{op:UnOp}{jC:Value}:yP C o op (.val jC)=mR o (D9 C.P op jC):=rfl
theorem ad7{o:Oper}{s t:TypeId}{jC:Value}(h:Bp C s t=false):yN C o s t (.val jC)=mR o (I5 C.P s t jC):=by simp[yN,h,Fh]
variable{P:Program}{t:TypeId}{x y:Operand}{k:IntKind}{a b:Int}
@[simp]theorem abC:eZ P .add t x y (.int k a) (.int k b)=some (.int k (k.wrap (a+b))):=by simp[eZ,eqGuard,binOp,Op.intArith,dV,bind,Sem.bind,pure]
@[simp]theorem abQ:eZ P .sub t x y (.int k a) (.int k b)=some (.int k (k.wrap (a-b))):=by simp[eZ,eqGuard,binOp,Op.intArith,dV,bind,Sem.bind,pure]
@[simp]theorem abK:eZ P .mul t x y (.int k a) (.int k b)=some (.int k (k.wrap (a*b))):=by simp[eZ,eqGuard,binOp,Op.intArith,dV,bind,Sem.bind,pure]
@[simp]theorem abD:eZ P .eql t x y (.int k a) (.int k b)=some (.bool (a==b)):=by simp[eZ,eqGuard,binOp,Op.intCmp,dV,bind,Sem.bind,pure]
@[simp]theorem abL:eZ P .neq t x y (.int k a) (.int k b)=some (.bool (a !=b)):=by simp[eZ,eqGuard,binOp,Op.intCmp,dV,bind,Sem.bind,pure]
@[simp]theorem abJ:eZ P .lss t x y (.int k a) (.int k b)=some (.bool (decide (a<b))):=by simp[eZ,eqGuard,binOp,Op.intCmp,dV,bind,Sem.bind,pure]
@[simp]theorem abI:eZ P .leq t x y (.int k a) (.int k b)=some (.bool (decide (a≤b))):=by simp[eZ,eqGuard,binOp,Op.intCmp,dV,bind,Sem.bind,pure]
@[simp]theorem abH:eZ P .gtr t x y (.int k a) (.int k b)=some (.bool (decide (b<a))):=by simp[eZ,eqGuard,binOp,Op.intCmp,dV,bind,Sem.bind,pure]
@[simp]theorem abG:eZ P .geq t x y (.int k a) (.int k b)=some (.bool (decide (b≤a))):=by simp[eZ,eqGuard,binOp,Op.intCmp,dV,bind,Sem.bind,pure]
@[simp]theorem as7{b:Bool}:D9 P .not (.bool b)=some (.bool !b):=rfl
@[simp]theorem aqR{α β:Type}(c:Prop)[Decidable c](a b:Option α)(k:α→Option β):(if c then a else b).bind k=if c then a.bind k else b.bind k:=by split<;>rfl
@[simp]theorem aqS{α β:Type}(c:Prop)[Decidable c](a b:Option α)(k:α→β):(if c then a else b).map k=if c then a.map k else b.map k:=by split<;>rfl
/-! ### Ends -/
variable{L:Id→Option (Option Rows)}{n:Nat}
@[simp]theorem arA(v:Value):pk L (n+1) (.val v)=some (.val v,[]):=rfl
@[simp]theorem ary(r:Rows):pk L (n+1) (.sl r)=some (.sl r,[]):=rfl
@[simp]theorem arB(r:List aa):pk L (n+1) (.ax r)=some (.ax r,[]):=rfl
@[simp]theorem arz:pk L (n+1) .cE=some (.own [] 0,[]):=rfl
@[simp]theorem arx:pk L (n+1) .bH=some (.bH,[]):=rfl
@[simp]theorem aqJ(p:Id)(v:Value):imp p (.val v)=(.val v,[]):=rfl
@[simp]theorem aqI(p:Id)(r:Rows):imp p (.sl r)=(.sl r,[]):=rfl
@[simp]theorem aqK(p:Id)(r:List aa):imp p (.ax r)=(.ax r,[]):=rfl
@[simp]theorem aqG(p:Id):imp p .bH=(.bH,[]):=rfl
@[simp]theorem aqH(p:Id)(r:Rows)(m:Nat):imp p (.own r m)=(.rs p 0 m,[(p,some r)]):=rfl
@[simp]theorem apI:eX []=true:=rfl
@[simp]theorem apH(r:List aa)(l:Rows):eX (r::l)=(de r&&eX l):=by simp[eX]
@[simp]theorem Jo:de []=true:=rfl
@[simp]theorem Jn(r:aa)(l:List aa):de (r::l)=(flat r&&de l):=by simp[de]
@[simp]theorem Jv(v:Value):flat (.val v)=true:=by simp[flat]
@[simp]theorem Ju(v:Rows):flat (.sl v)=true:=by simp[flat]
@[simp]theorem Js(v:Rows):flat (.eO v)=true:=by simp[flat]
@[simp]theorem Jr(v:Rows):flat (.im v)=true:=by simp[flat]
@[simp]theorem apJ(v:List aa):flat (.ax v)=true:=by simp[flat]
@[simp]theorem Jt(v:Rows)(m:Nat):flat (.own v m)=eX v:=by simp[flat]
theorem aew{α:Type}(g:α→List aa)(l:List α)(h:∀x,de (g x)=true):eX (l.map g)=true:=by induction l with|nil=>(simp)|cons x l ih=>simp[h,ih]
theorem VS{id:Id}{len:Nat}{rows:Rows}(h:L id=some (some rows))(hl:len≤rows.length)(hf:eX rows=true):pk L (n+1) (.rs id 0 len)=some (.own rows len,[id]):=by simp[pk,mP,h,hl,hf]
@[simp]theorem al9(m:Nat)(t:Nat→aa)(h:Id→Option (Option Rows))(slots:List Nat):jU ⟨m,t,h⟩ slots=(kr h t slots).bind fun x=>if eR x.2 then some x.1 else none:=by unfold jU;dsimp only;cases kr h t slots<;>rfl
@[simp]theorem ark(t:Nat→aa):kr L t []=some ([],[]):=rfl
@[simp]theorem alc(t:Nat→aa)(s:Nat)(l:List Nat):kr L t (s::l)=(pk L 9 (t s)).bind fun x=>(kr L t l).map fun y=>(x.1::y.1,x.2++y.2):=rfl
@[simp]theorem arc(m:Nat)(v:List aa):aG m [] v=⟨m,fun _=> .bH,fun _=>none⟩:=rfl
@[simp]theorem arb(m s:Nat)(l:List Nat)(v:aa)(vs:List aa):aG m (s::l) (v::vs)=⟨m,aC (aG m l vs).t s (imp [s] v).1,bD (aG m l vs).h (imp [s] v).2⟩:=rfl
@[simp]theorem arP{t:Nat}:xO C S (.tmp t)=pk S.h 9 (un true (S.t t)):=rfl
@[simp]theorem arR:lE C S []=some ([],[]):=rfl
@[simp]theorem arQ{r:ResultVar}{l:List ResultVar}:lE C S (r::l)=(xO C S r).bind fun x=>(lE C S l).map fun y=>(x.1::y.1,x.2++y.2):=rfl
end
end Go.Ab
