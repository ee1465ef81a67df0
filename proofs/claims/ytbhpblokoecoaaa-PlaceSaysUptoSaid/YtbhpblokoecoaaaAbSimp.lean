import Derived.Test.YtbhpblokoecoaaaAbBase
namespace Go.Ab
open Go
abbrev I(n:Int):aa:= .val (.int .i64 n)
abbrev B(b:Bool):aa:= .val (.bool b)
section
variable{C:aV}{f:FuncId}{call:FuncId→List aa→Option (aa×List aa)}{S:an}{g:Bool}{ops:Array Oper}
variable{ρ:Type}{d:Option Tmp}{ty:TypeId}{pos:String}{bq:Array Edge}{bJ:Option (Nat×Bool)}
@[simp]theorem alq{α β:Type}[DecidableEq α](f:α→β)(k j:α)(v:β):aE f k v j=if j=k then v else f j:=rfl
@[simp]theorem alp(t:Nat→aa):dO t []=t:=rfl
@[simp]theorem alo(t:Nat→aa)(i:Nat)(v:aa)(l:List (Nat×aa)):dO t ((i,v)::l)=aE (dO t l) i v:=rfl
@[simp]theorem aln(h:Id→Option (Option Rows)):bL h []=h:=rfl
@[simp]theorem alm(h:Id→Option (Option Rows))(i:Id)(v:Option Rows)(l:List (Id×Option Rows)):bL h ((i,v)::l)=aE (bL h l) i (some v):=rfl
@[simp]theorem agJ(n:Nat)(t:Nat→aa)(h:Id→Option (Option Rows))(ec:List (Nat×aa))(rd:List Id)(wr:List (Id×Option Rows)):an.app ⟨n,t,h⟩ ⟨ec,rd,wr⟩=⟨n,dO t ec,bL h wr⟩:=rfl
/-! ### Operands, guards -/
@[simp]theorem aic(t:Nat):S.get C (.tmp t)=S.t t:=rfl
@[simp]theorem ah6(k:IntKind)(n:Int):S.get C (.const (.int k n))= .val (.int k n):=rfl
@[simp]theorem ah3(b:Bool):S.get C (.const (.bool b))= .val (.bool b):=rfl
@[simp]theorem aib(s:ByteArray):S.get C (.const (.string s))= .val (.string s):=rfl
@[simp]theorem ah9:S.get C (.const (.pointer none))= .val (.pointer none):=rfl
@[simp]theorem aia:S.get C (.const (.slice none 0 0))= .cN:=rfl
@[simp]theorem ah8:S.get C (.const .nilIface)= .val .nilIface:=rfl
@[simp]theorem ah7:S.get C (.const .nilFunc)= .val .nilFunc:=rfl
@[simp]theorem ah4(k:FuncId):S.get C (.func k)= .fn (.func k) [] []:=rfl
@[simp]theorem ah5(k:Nat):S.get C (.global k)=match C.cU k with|some cs=> .au cs|none=> .bX:=rfl
@[simp]theorem alh(v:Value):un g (.val v)= .val v:=rfl
@[simp]theorem alc(r:Rows):un g (.sl r)= .sl r:=rfl
@[simp]theorem ali(c:List aa):un g (.au c)= .au c:=rfl
@[simp]theorem ald:un g .cN= .cN:=rfl
@[simp]theorem alb(i:Id)(a b:Nat):un g (.rs i a b)= .rs i a b:=rfl
@[simp]theorem ak8(i:Id)(a b:Nat):un g (.mp i a b)= .mp i a b:=rfl
@[simp]theorem ak1(k:Fn)(a b:List aa):un g (.fn k a b)= .fn k a b:=rfl
@[simp]theorem akW(c:List aa):un g (.agg c)= .agg c:=rfl
@[simp]theorem alg(c:List aa):un g (.b9 c)= .b9 c:=rfl
@[simp]theorem ak2:un g .bX= .bX:=rfl
@[simp]theorem ala(r:Rows)(m:Nat):un g (.own r m)= .own r m:=rfl
@[simp]theorem Sg(x:aa):un g (.dj g x)=x:=by cases g<;>rfl
@[simp]theorem alf(x:aa):un g (.dj true x)=x:=by cases g<;>rfl
@[simp]theorem akX(h:Bool)(x:aa):un (g&&h) (.dj g x)=x:=by cases g<;>cases h<;>rfl
@[simp]theorem akY(h:Bool)(x:aa):un (g&&h) (.dj (g&&h) x)=x:=Sg x
@[simp]theorem akZ(h:Bool)(x:aa):un (g&&h) (.dj h x)=x:=by cases g<;>cases h<;>rfl
@[simp]theorem ak0(h k:Bool)(x:aa):un (g&&h&&k) (.dj g x)=x:=by cases g<;>cases h<;>cases k<;>rfl
@[simp]theorem agL(b:Bool):lP (.val (.bool b))=b:=rfl
@[simp]theorem ahe{op:Op}:ue C f call S ops ⟨d,op,ty,pos,bq,none⟩=bD C f call S true ⟨d,op,ty,pos,bq,none⟩:=rfl
def Fi(C:aV)(f:FuncId)(call:FuncId→List aa→Option (aa×List aa))(S:an)(o:Oper)(g:Bool):Option bx:=match bD C f call S g o with|some e=>if e.wr.isEmpty then some {e with ec:=e.ec.map fun x=>(x.1, .dj g x.2)}else if g then some e else some (zD o)|none=>if g then none else some (zD o)
def y9(want:Bool):aa→Option Bool| .val (.bool b)=>some (b==want)| .dj g (.val (.bool b))=>some (g&&(b==want))| .dj false _=>some false|_=>none
@[simp]theorem aif(w b:Bool):y9 w (.val (.bool b))=some (b==w):=rfl
@[simp]theorem aid(w b g:Bool):y9 w (.dj g (.val (.bool b)))=some (g&&(b==w)):=rfl
def uh(w:Bool)(S:an):Option Nat→Option Bool|some d=>y9 w (S.t d)|none=>none
@[simp]theorem N1(w:Bool)(d:Nat):uh w S (some d)=y9 w (S.t d):=rfl
def Ia(ops:Array Oper)(j:Nat):Option Nat:=(ops[j]?).bind (·.dst)
def pK:List Oper→Nat→Option Nat|[],_=>none|o::_,0=>o.dst|_::l,j+1=>pK l j
theorem Xg(l:List Oper)(j:Nat):Ia ⟨l⟩ j=pK l j:=by unfold Ia;simp only[List.getElem?_toArray];induction l generalizing j with|nil=>(simp[pK])|cons o l ih=>cases j with|zero=>(simp[pK])|succ j=>simpa[pK]using ih j
def MO(C:aV)(f:FuncId)(call:FuncId→List aa→Option (aa×List aa))(S:an)(o:Oper):Option Bool→Option bx|some g=>Fi C f call S o g|none=>none
@[simp]theorem H6(o:Oper)(g:Bool):MO C f call S o (some g)=Fi C f call S o g:=rfl
def Fw:List (Nat×aa)→Bool→List (Nat×aa)|[],_=>[]|x::l,g=>(x.1, .dj g x.2)::Fw l g
def HZ(o:Oper)(g:Bool):Option bx→Option bx|some e=>if e.wr.isEmpty then some ⟨Fw e.ec g,e.rd,e.wr⟩else if g then some e else some (zD o)|none=>if g then none else some (zD o)
theorem Yz(l:List (Nat×aa))(g:Bool):Fw l g=l.map fun x=>(x.1, .dj g x.2):=by induction l with|nil=>(rfl)|cons x l ih=>simp[Fw,ih]
@[simp]theorem Ik(o:Oper)(g:Bool):Fi C f call S o g=HZ o g (bD C f call S g o):=by unfold Fi HZ;split<;>simp_all[Yz]
@[simp]theorem ag3(o:Oper)(g:Bool)(t:Nat)(v:aa)(rd:List Id):HZ o g (some ⟨[(t,v)],rd,[]⟩)=some ⟨[(t, .dj g v)],rd,[]⟩:=rfl
@[simp]theorem Ij{op:Op}{j:Nat}{w:Bool}{l:List Oper}:ue C f call S ⟨l⟩ ⟨d,op,ty,pos,bq,some (j,w)⟩=MO C f call S ⟨d,op,ty,pos,bq,some (j,w)⟩ (uh w S (pK l j)):=by rw[←Xg];unfold ue qU Ia;simp only;cases((⟨l⟩:Array Oper)[j]?).bind (·.dst)with|none=>(rfl)|some d=>simp only[N1];cases S.t d with|val v=>(cases v<;>rfl)|dj g x=>(cases x with|val v=>(cases v<;>cases g<;>rfl)|_=>cases g<;>rfl)|_=>rfl
@[simp]theorem aie(w:Bool)(x:aa):y9 w (.dj false x)=some false:=by cases x with|val v=>(cases v<;>rfl)|_=>rfl
variable{op:Op}
@[simp]theorem ajX{t:Nat}(v:aa):ret ⟨some t,op,ty,pos,bq,bJ⟩ v=some ⟨[(t,v)],[],[]⟩:=rfl
@[simp]theorem ajS{t:Nat}(v:aa)(rd:List Id)(wr:List (Id×Option Rows)):put ⟨some t,op,ty,pos,bq,bJ⟩ v rd wr=⟨[(t,v)],rd,wr⟩:=rfl
@[simp]theorem ajR(v:aa)(rd:List Id)(wr:List (Id×Option Rows)):put ⟨none,op,ty,pos,bq,bJ⟩ v rd wr=⟨[],rd,wr⟩:=rfl
@[simp]theorem ajW(o:Oper)(v:Value):j5 o (some v)=if er v then ret o (.val v)else none:=rfl
@[simp]theorem ai5(k:IntKind)(n:Int):er (.int k n)=true:=rfl
@[simp]theorem ai4(b:Bool):er (.bool b)=true:=rfl
@[simp]theorem ai6(b:ByteArray):er (.string b)=true:=rfl
@[simp]theorem ahf(o:Oper)(h x y:Bool):uf o (.val (.bool h)) (.val (.bool x)) (.val (.bool y))=ret o (.val (.bool (if h then x else y))):=rfl
@[simp]theorem akv(v:Value):lG (.val v)=some v:=rfl
@[simp]theorem aku(c:List aa):lG (.agg c)=(jb c).map fun vs=> .agg ⟨vs⟩:=rfl
@[simp]theorem akx:jb []=some []:=rfl
@[simp]theorem akw(v:Value)(l:List aa):jb (.val v::l)=(jb l).map (v::·):=rfl
@[simp]theorem ai3(k:IntKind)(n:Int):eF (.val (.int k n))=some n:=rfl
@[simp]theorem ahd{o:Oper}{op:BinOp}{t:TypeId}{x y:Operand}{hY rZ:Value}:nE C o op t x y (.val hY) (.val rZ)=j5 o (eo C.P op t x y hY rZ):=rfl
@[simp]theorem ahg{o:Oper}{op:UnOp}{hY:Value}:vX C o op (.val hY)=j5 o (Bm C.P op hY):=rfl
theorem Xx{o:Oper}{s t:TypeId}{hY:Value}(h:yO C s t=false):vV C o s t (.val hY)=j5 o (Fe C.P s t hY):=by simp[vV,h,B9]
variable{P:Program}{t:TypeId}{x y:Operand}{k:IntKind}{a b:Int}
@[simp]theorem VK:eo P .add t x y (.int k a) (.int k b)=some (.int k (k.wrap (a+b))):=by simp[eo,eqGuard,binOp,Op.intArith,dz,bind,Sem.bind,pure]
@[simp]theorem VY:eo P .sub t x y (.int k a) (.int k b)=some (.int k (k.wrap (a-b))):=by simp[eo,eqGuard,binOp,Op.intArith,dz,bind,Sem.bind,pure]
@[simp]theorem VS:eo P .mul t x y (.int k a) (.int k b)=some (.int k (k.wrap (a*b))):=by simp[eo,eqGuard,binOp,Op.intArith,dz,bind,Sem.bind,pure]
@[simp]theorem VL:eo P .eql t x y (.int k a) (.int k b)=some (.bool (a==b)):=by simp[eo,eqGuard,binOp,Op.intCmp,dz,bind,Sem.bind,pure]
@[simp]theorem VT:eo P .neq t x y (.int k a) (.int k b)=some (.bool (a !=b)):=by simp[eo,eqGuard,binOp,Op.intCmp,dz,bind,Sem.bind,pure]
@[simp]theorem VR:eo P .lss t x y (.int k a) (.int k b)=some (.bool (decide (a<b))):=by simp[eo,eqGuard,binOp,Op.intCmp,dz,bind,Sem.bind,pure]
@[simp]theorem VQ:eo P .leq t x y (.int k a) (.int k b)=some (.bool (decide (a≤b))):=by simp[eo,eqGuard,binOp,Op.intCmp,dz,bind,Sem.bind,pure]
@[simp]theorem VP:eo P .gtr t x y (.int k a) (.int k b)=some (.bool (decide (b<a))):=by simp[eo,eqGuard,binOp,Op.intCmp,dz,bind,Sem.bind,pure]
@[simp]theorem VO:eo P .geq t x y (.int k a) (.int k b)=some (.bool (decide (b≤a))):=by simp[eo,eqGuard,binOp,Op.intCmp,dz,bind,Sem.bind,pure]
@[simp]theorem ak9{b:Bool}:Bm P .not (.bool b)=some (.bool !b):=rfl
@[simp]theorem ai9{α β:Type}(c:Prop)[Decidable c](a b:Option α)(k:α→Option β):(if c then a else b).bind k=if c then a.bind k else b.bind k:=by split<;>rfl
@[simp]theorem aja{α β:Type}(c:Prop)[Decidable c](a b:Option α)(k:α→β):(if c then a else b).map k=if c then a.map k else b.map k:=by split<;>rfl
/-! ### Ends -/
variable{L:Id→Option (Option Rows)}{n:Nat}
@[simp]theorem ajH(v:Value):pk L (n+1) (.val v)=some (.val v,[]):=rfl
@[simp]theorem ajF(r:Rows):pk L (n+1) (.sl r)=some (.sl r,[]):=rfl
@[simp]theorem ajI(r:List aa):pk L (n+1) (.au r)=some (.au r,[]):=rfl
@[simp]theorem ajG:pk L (n+1) .cN=some (.own [] 0,[]):=rfl
@[simp]theorem ajE:pk L (n+1) .bX=some (.bX,[]):=rfl
@[simp]theorem ai1(p:Id)(v:Value):imp p (.val v)=(.val v,[]):=rfl
@[simp]theorem ai0(p:Id)(r:Rows):imp p (.sl r)=(.sl r,[]):=rfl
@[simp]theorem ai2(p:Id)(r:List aa):imp p (.au r)=(.au r,[]):=rfl
@[simp]theorem aiY(p:Id):imp p .bX=(.bX,[]):=rfl
@[simp]theorem aiZ(p:Id)(r:Rows)(m:Nat):imp p (.own r m)=(.rs p 0 m,[(p,some r)]):=rfl
@[simp]theorem ah1:eN []=true:=rfl
@[simp]theorem ah0(r:List aa)(l:Rows):eN (r::l)=(ey r&&eN l):=by simp[eN]
@[simp]theorem Iq:ey []=true:=rfl
@[simp]theorem Ip(r:aa)(l:List aa):ey (r::l)=(flat r&&ey l):=by simp[ey]
@[simp]theorem Iv(v:Value):flat (.val v)=true:=by simp[flat]
@[simp]theorem Iu(v:Rows):flat (.sl v)=true:=by simp[flat]
@[simp]theorem Is(v:Rows):flat (.dW v)=true:=by simp[flat]
@[simp]theorem Ir(v:Rows):flat (.im v)=true:=by simp[flat]
@[simp]theorem ah2(v:List aa):flat (.au v)=true:=by simp[flat]
@[simp]theorem It(v:Rows)(m:Nat):flat (.own v m)=eN v:=by simp[flat]
theorem XO{α:Type}(g:α→List aa)(l:List α)(h:∀x,ey (g x)=true):eN (l.map g)=true:=by induction l with|nil=>(simp)|cons x l ih=>simp[h,ih]
theorem Q1{id:Id}{len:Nat}{rows:Rows}(h:L id=some (some rows))(hl:len≤rows.length)(hf:eN rows=true):pk L (n+1) (.rs id 0 len)=some (.own rows len,[id]):=by simp[pk,iW,h,hl,hf]
@[simp]theorem aeA(m:Nat)(t:Nat→aa)(h:Id→Option (Option Rows))(slots:List Nat):iF ⟨m,t,h⟩ slots=(jv h t slots).bind fun x=>if fN x.2 then some x.1 else none:=by unfold iF;dsimp only;cases jv h t slots<;>rfl
@[simp]theorem ajx(t:Nat→aa):jv L t []=some ([],[]):=rfl
@[simp]theorem adQ(t:Nat→aa)(s:Nat)(l:List Nat):jv L t (s::l)=(pk L 9 (t s)).bind fun x=>(jv L t l).map fun y=>(x.1::y.1,x.2++y.2):=rfl
@[simp]theorem ajs(m:Nat)(v:List aa):aF m [] v=⟨m,fun _=> .bX,fun _=>none⟩:=rfl
@[simp]theorem ajr(m s:Nat)(l:List Nat)(v:aa)(vs:List aa):aF m (s::l) (v::vs)=⟨m,aE (aF m l vs).t s (imp [s] v).1,bL (aF m l vs).h (imp [s] v).2⟩:=rfl
@[simp]theorem ajT{t:Nat}:tg C S (.tmp t)=pk S.h 9 (un true (S.t t)):=rfl
@[simp]theorem ajV:j4 C S []=some ([],[]):=rfl
@[simp]theorem ajU{r:ResultVar}{l:List ResultVar}:j4 C S (r::l)=(tg C S r).bind fun x=>(j4 C S l).map fun y=>(x.1::y.1,x.2++y.2):=rfl
end
end Go.Ab
