import Derived.Test.YtbikcahlonfnmaaGreatAbBase
namespace Go.Ab
open Go
abbrev I(n:Int):aa:= .val (.int .i64 n)
abbrev B(b:Bool):aa:= .val (.bool b)
section
variable{C:aO}{f:FuncId}{call:FuncId→List aa→Option (aa×List aa)}{S:ak}{g:Bool}{ops:Array Oper}
variable{ρ:Type}{d:Option Tmp}{ty:TypeId}{pos:String}{bg:Array Edge}{bH:Option (Nat×Bool)}
@[simp]theorem aqL{α β:Type}[DecidableEq α](f:α→β)(k j:α)(v:β):av f k v j=if j=k then v else f j:=rfl
@[simp]theorem aqK(t:Nat→aa):di t []=t:=rfl
@[simp]theorem aqJ(t:Nat→aa)(i:Nat)(v:aa)(l:List (Nat×aa)):di t ((i,v)::l)=av (di t l) i v:=rfl
@[simp]theorem aqI(h:Id→Option (Option Rows)):bw h []=h:=rfl
@[simp]theorem aqH(h:Id→Option (Option Rows))(i:Id)(v:Option Rows)(l:List (Id×Option Rows)):bw h ((i,v)::l)=av (bw h l) i (some v):=rfl
@[simp]theorem alX(n:Nat)(t:Nat→aa)(h:Id→Option (Option Rows))(ep:List (Nat×aa))(rd:List Id)(wr:List (Id×Option Rows)):ak.app ⟨n,t,h⟩ ⟨ep,rd,wr⟩=⟨n,di t ep,bw h wr⟩:=rfl
/-! ### Operands, guards -/
@[simp]theorem anl(t:Nat):S.get C (.tmp t)=S.t t:=rfl
@[simp]theorem anf(k:IntKind)(n:Int):S.get C (.const (.int k n))= .val (.int k n):=rfl
@[simp]theorem anb(b:Bool):S.get C (.const (.bool b))= .val (.bool b):=rfl
@[simp]theorem ank(s:ByteArray):S.get C (.const (.string s))= .val (.string s):=rfl
@[simp]theorem ani:S.get C (.const (.pointer none))= .val (.pointer none):=rfl
@[simp]theorem anj:S.get C (.const (.slice none 0 0))= .cu:=rfl
@[simp]theorem anh:S.get C (.const .nilIface)= .val .nilIface:=rfl
@[simp]theorem ang:S.get C (.const .nilFunc)= .val .nilFunc:=rfl
@[simp]theorem anc(k:FuncId):S.get C (.func k)= .fn (.func k) [] []:=rfl
@[simp]theorem ane(k:Nat):S.get C (.global k)=match C.cC k with|some cs=> .aq cs|none=> .bz:=rfl
@[simp]theorem aqD(v:Value):un g (.val v)= .val v:=rfl
@[simp]theorem aqy(r:Rows):un g (.sl r)= .sl r:=rfl
@[simp]theorem aqE(c:List aa):un g (.aq c)= .aq c:=rfl
@[simp]theorem aqz:un g .cu= .cu:=rfl
@[simp]theorem aqx(i:Id)(a b:Nat):un g (.rs i a b)= .rs i a b:=rfl
@[simp]theorem aqu(i:Id)(a b:Nat):un g (.mp i a b)= .mp i a b:=rfl
@[simp]theorem aqn(k:Fn)(a b:List aa):un g (.fn k a b)= .fn k a b:=rfl
@[simp]theorem aqi(c:List aa):un g (.agg c)= .agg c:=rfl
@[simp]theorem aqC(c:List aa):un g (.bL c)= .bL c:=rfl
@[simp]theorem aqo:un g .bz= .bz:=rfl
@[simp]theorem aqw(r:Rows)(m:Nat):un g (.own r m)= .own r m:=rfl
@[simp]theorem VR(x:aa):un g (.dz g x)=x:=by cases g<;>rfl
@[simp]theorem aqB(x:aa):un g (.dz true x)=x:=by cases g<;>rfl
@[simp]theorem aqj(h:Bool)(x:aa):un (g&&h) (.dz g x)=x:=by cases g<;>cases h<;>rfl
@[simp]theorem aqk(h:Bool)(x:aa):un (g&&h) (.dz (g&&h) x)=x:=VR x
@[simp]theorem aql(h:Bool)(x:aa):un (g&&h) (.dz h x)=x:=by cases g<;>cases h<;>rfl
@[simp]theorem aqm(h k:Bool)(x:aa):un (g&&h&&k) (.dz g x)=x:=by cases g<;>cases h<;>cases k<;>rfl
@[simp]theorem alZ(b:Bool):mH (.val (.bool b))=b:=rfl
@[simp]theorem amr{op:Op}:vf C f call S ops ⟨d,op,ty,pos,bg,none⟩=bF C f call S true ⟨d,op,ty,pos,bg,none⟩:=rfl
def HR(C:aO)(f:FuncId)(call:FuncId→List aa→Option (aa×List aa))(S:ak)(o:Oper)(g:Bool):Option bx:=match bF C f call S g o with|some e=>if e.wr.isEmpty then some {e with ep:=e.ep.map fun x=>(x.1, .dz g x.2)}else if g then some e else some (BB o)|none=>if g then none else some (BB o)
def A5(want:Bool):aa→Option Bool| .val (.bool b)=>some (b==want)| .dz g (.val (.bool b))=>some (g&&(b==want))| .dz false _=>some false|_=>none
@[simp]theorem ano(w b:Bool):A5 w (.val (.bool b))=some (b==w):=rfl
@[simp]theorem anm(w b g:Bool):A5 w (.dz g (.val (.bool b)))=some (g&&(b==w)):=rfl
def vk(w:Bool)(S:ak):Option Nat→Option Bool|some d=>A5 w (S.t d)|none=>none
@[simp]theorem RA(w:Bool)(d:Nat):vk w S (some d)=A5 w (S.t d):=rfl
def K2(ops:Array Oper)(j:Nat):Option Nat:=(ops[j]?).bind (·.dst)
def qO:List Oper→Nat→Option Nat|[],_=>none|o::_,0=>o.dst|_::l,j+1=>qO l j
theorem abz(l:List Oper)(j:Nat):K2 ⟨l⟩ j=qO l j:=by unfold K2;simp only[List.getElem?_toArray];induction l generalizing j with|nil=>(simp[qO])|cons o l ih=>cases j with|zero=>(simp[qO])|succ j=>simpa[qO]using ih j
def Qe(C:aO)(f:FuncId)(call:FuncId→List aa→Option (aa×List aa))(S:ak)(o:Oper):Option Bool→Option bx|some g=>HR C f call S o g|none=>none
@[simp]theorem KW(o:Oper)(g:Bool):Qe C f call S o (some g)=HR C f call S o g:=rfl
def Il:List (Nat×aa)→Bool→List (Nat×aa)|[],_=>[]|x::l,g=>(x.1, .dz g x.2)::Il l g
def KV(o:Oper)(g:Bool):Option bx→Option bx|some e=>if e.wr.isEmpty then some ⟨Il e.ep g,e.rd,e.wr⟩else if g then some e else some (BB o)|none=>if g then none else some (BB o)
theorem adh(l:List (Nat×aa))(g:Bool):Il l g=l.map fun x=>(x.1, .dz g x.2):=by induction l with|nil=>(rfl)|cons x l ih=>simp[Il,ih]
@[simp]theorem Lb(o:Oper)(g:Bool):HR C f call S o g=KV o g (bF C f call S g o):=by unfold HR KV;split<;>simp_all[adh]
@[simp]theorem amf(o:Oper)(g:Bool)(t:Nat)(v:aa)(rd:List Id):KV o g (some ⟨[(t,v)],rd,[]⟩)=some ⟨[(t, .dz g v)],rd,[]⟩:=rfl
@[simp]theorem La{op:Op}{j:Nat}{w:Bool}{l:List Oper}:vf C f call S ⟨l⟩ ⟨d,op,ty,pos,bg,some (j,w)⟩=Qe C f call S ⟨d,op,ty,pos,bg,some (j,w)⟩ (vk w S (qO l j)):=by rw[←abz];unfold vf sj K2;simp only;cases((⟨l⟩:Array Oper)[j]?).bind (·.dst)with|none=>(rfl)|some d=>simp only[RA];cases S.t d with|val v=>(cases v<;>rfl)|dz g x=>(cases x with|val v=>(cases v<;>cases g<;>rfl)|_=>cases g<;>rfl)|_=>rfl
@[simp]theorem ann(w:Bool)(x:aa):A5 w (.dz false x)=some false:=by cases x with|val v=>(cases v<;>rfl)|_=>rfl
variable{op:Op}
@[simp]theorem ape{t:Nat}(v:aa):ret ⟨some t,op,ty,pos,bg,bH⟩ v=some ⟨[(t,v)],[],[]⟩:=rfl
@[simp]theorem ao8{t:Nat}(v:aa)(rd:List Id)(wr:List (Id×Option Rows)):put ⟨some t,op,ty,pos,bg,bH⟩ v rd wr=⟨[(t,v)],rd,wr⟩:=rfl
@[simp]theorem ao7(v:aa)(rd:List Id)(wr:List (Id×Option Rows)):put ⟨none,op,ty,pos,bg,bH⟩ v rd wr=⟨[],rd,wr⟩:=rfl
@[simp]theorem apd(o:Oper)(v:Value):kS o (some v)=if eJ v then ret o (.val v)else none:=rfl
@[simp]theorem aoc(k:IntKind)(n:Int):eJ (.int k n)=true:=rfl
@[simp]theorem aob(b:Bool):eJ (.bool b)=true:=rfl
@[simp]theorem aod(b:ByteArray):eJ (.string b)=true:=rfl
@[simp]theorem ams(o:Oper)(h x y:Bool):vh o (.val (.bool h)) (.val (.bool x)) (.val (.bool y))=ret o (.val (.bool (if h then x else y))):=rfl
@[simp]theorem apR(v:Value):mB (.val v)=some v:=rfl
@[simp]theorem apQ(c:List aa):mB (.agg c)=(jx c).map fun vs=> .agg ⟨vs⟩:=rfl
@[simp]theorem apT:jx []=some []:=rfl
@[simp]theorem apS(v:Value)(l:List aa):jx (.val v::l)=(jx l).map (v::·):=rfl
@[simp]theorem aoa(k:IntKind)(n:Int):e3 (.val (.int k n))=some n:=rfl
@[simp]theorem amq{o:Oper}{op:BinOp}{t:TypeId}{x y:Operand}{iE sZ:Value}:ox C o op t x y (.val iE) (.val sZ)=kS o (eA C.P op t x y iE sZ):=rfl
@[simp]theorem amt{o:Oper}{op:UnOp}{iE:Value}:xV C o op (.val iE)=kS o (Da C.P op iE):=rfl
theorem abR{o:Oper}{s t:TypeId}{iE:Value}(h:AL C s t=false):xT C o s t (.val iE)=kS o (HK C.P s t iE):=by simp[xT,h,D5]
variable{P:Program}{t:TypeId}{x y:Operand}{k:IntKind}{a b:Int}
@[simp]theorem ZD:eA P .add t x y (.int k a) (.int k b)=some (.int k (k.wrap (a+b))):=by simp[eA,eqGuard,binOp,Op.intArith,dD,bind,Sem.bind,pure]
@[simp]theorem ZS:eA P .sub t x y (.int k a) (.int k b)=some (.int k (k.wrap (a-b))):=by simp[eA,eqGuard,binOp,Op.intArith,dD,bind,Sem.bind,pure]
@[simp]theorem ZM:eA P .mul t x y (.int k a) (.int k b)=some (.int k (k.wrap (a*b))):=by simp[eA,eqGuard,binOp,Op.intArith,dD,bind,Sem.bind,pure]
@[simp]theorem ZE:eA P .eql t x y (.int k a) (.int k b)=some (.bool (a==b)):=by simp[eA,eqGuard,binOp,Op.intCmp,dD,bind,Sem.bind,pure]
@[simp]theorem ZN:eA P .neq t x y (.int k a) (.int k b)=some (.bool (a !=b)):=by simp[eA,eqGuard,binOp,Op.intCmp,dD,bind,Sem.bind,pure]
@[simp]theorem ZL:eA P .lss t x y (.int k a) (.int k b)=some (.bool (decide (a<b))):=by simp[eA,eqGuard,binOp,Op.intCmp,dD,bind,Sem.bind,pure]
@[simp]theorem ZK:eA P .leq t x y (.int k a) (.int k b)=some (.bool (decide (a≤b))):=by simp[eA,eqGuard,binOp,Op.intCmp,dD,bind,Sem.bind,pure]
@[simp]theorem ZJ:eA P .gtr t x y (.int k a) (.int k b)=some (.bool (decide (b<a))):=by simp[eA,eqGuard,binOp,Op.intCmp,dD,bind,Sem.bind,pure]
@[simp]theorem ZI:eA P .geq t x y (.int k a) (.int k b)=some (.bool (decide (b≤a))):=by simp[eA,eqGuard,binOp,Op.intCmp,dD,bind,Sem.bind,pure]
@[simp]theorem aqv{b:Bool}:Da P .not (.bool b)=some (.bool !b):=rfl
@[simp]theorem aog{α β:Type}(c:Prop)[Decidable c](a b:Option α)(k:α→Option β):(if c then a else b).bind k=if c then a.bind k else b.bind k:=by split<;>rfl
@[simp]theorem aoh{α β:Type}(c:Prop)[Decidable c](a b:Option α)(k:α→β):(if c then a else b).map k=if c then a.map k else b.map k:=by split<;>rfl
/-! ### Ends -/
variable{L:Id→Option (Option Rows)}{n:Nat}
@[simp]theorem aoV(v:Value):pk L (n+1) (.val v)=some (.val v,[]):=rfl
@[simp]theorem aoT(r:Rows):pk L (n+1) (.sl r)=some (.sl r,[]):=rfl
@[simp]theorem aoW(r:List aa):pk L (n+1) (.aq r)=some (.aq r,[]):=rfl
@[simp]theorem aoU:pk L (n+1) .cu=some (.own [] 0,[]):=rfl
@[simp]theorem aoS:pk L (n+1) .bz=some (.bz,[]):=rfl
@[simp]theorem an8(p:Id)(v:Value):imp p (.val v)=(.val v,[]):=rfl
@[simp]theorem an7(p:Id)(r:Rows):imp p (.sl r)=(.sl r,[]):=rfl
@[simp]theorem an9(p:Id)(r:List aa):imp p (.aq r)=(.aq r,[]):=rfl
@[simp]theorem an5(p:Id):imp p .bz=(.bz,[]):=rfl
@[simp]theorem an6(p:Id)(r:Rows)(m:Nat):imp p (.own r m)=(.rs p 0 m,[(p,some r)]):=rfl
@[simp]theorem am6:eH []=true:=rfl
@[simp]theorem am5(r:List aa)(l:Rows):eH (r::l)=(cT r&&eH l):=by simp[eH]
@[simp]theorem H6:cT []=true:=rfl
@[simp]theorem HZ(r:aa)(l:List aa):cT (r::l)=(flat r&&cT l):=by simp[cT]
@[simp]theorem Ie(v:Value):flat (.val v)=true:=by simp[flat]
@[simp]theorem Ic(v:Rows):flat (.sl v)=true:=by simp[flat]
@[simp]theorem Ia(v:Rows):flat (.ez v)=true:=by simp[flat]
@[simp]theorem H9(v:Rows):flat (.im v)=true:=by simp[flat]
@[simp]theorem am7(v:List aa):flat (.aq v)=true:=by simp[flat]
@[simp]theorem Ib(v:Rows)(m:Nat):flat (.own v m)=eH v:=by simp[flat]
theorem acm{α:Type}(g:α→List aa)(l:List α)(h:∀x,cT (g x)=true):eH (l.map g)=true:=by induction l with|nil=>(simp)|cons x l ih=>simp[h,ih]
theorem Uq{id:Id}{len:Nat}{rows:Rows}(h:L id=some (some rows))(hl:len≤rows.length)(hf:eH rows=true):pk L (n+1) (.rs id 0 len)=some (.own rows len,[id]):=by simp[pk,lH,h,hl,hf]
@[simp]theorem ajC(m:Nat)(t:Nat→aa)(h:Id→Option (Option Rows))(slots:List Nat):iW ⟨m,t,h⟩ slots=(js h t slots).bind fun x=>if eu x.2 then some x.1 else none:=by unfold iW;dsimp only;cases js h t slots<;>rfl
@[simp]theorem aoH(t:Nat→aa):js L t []=some ([],[]):=rfl
@[simp]theorem aiL(t:Nat→aa)(s:Nat)(l:List Nat):js L t (s::l)=(pk L 9 (t s)).bind fun x=>(js L t l).map fun y=>(x.1::y.1,x.2++y.2):=rfl
@[simp]theorem aoB(m:Nat)(v:List aa):aH m [] v=⟨m,fun _=> .bz,fun _=>none⟩:=rfl
@[simp]theorem aoA(m s:Nat)(l:List Nat)(v:aa)(vs:List aa):aH m (s::l) (v::vs)=⟨m,av (aH m l vs).t s (imp [s] v).1,bw (aH m l vs).h (imp [s] v).2⟩:=rfl
@[simp]theorem apa{t:Nat}:wI C S (.tmp t)=pk S.h 9 (un true (S.t t)):=rfl
@[simp]theorem apc:kq C S []=some ([],[]):=rfl
@[simp]theorem apb{r:ResultVar}{l:List ResultVar}:kq C S (r::l)=(wI C S r).bind fun x=>(kq C S l).map fun y=>(x.1::y.1,x.2++y.2):=rfl
end
end Go.Ab
