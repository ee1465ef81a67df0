import Derived.Test.YtbbhbdlljfffdaaGreatDoorAbFn
import Derived.WalkKit
import Derived.ProofKit
import Derived.OpenShut
import Derived.Deep.DeepHandedRow
open Bool renaming and_eq_true->AC
open List renaming mem_map_of_mem->GT
open Nat renaming lt_or_ge->Do
open Option.some renaming injEq->GE
set_option linter.all false
namespace Go.Ab
open Go
abbrev I(n:Int):U:= .val (.int .i64 n)
abbrev B(b:Bool):U:= .val (.bool b)
section
variable{C:aF}{f:FuncId}{call:FuncId->List U->Option (U×List U)}{S:ah}{g:Bool}{ops:Array Oper}
variable{ρ:Type}{d:Option Tmp}{ty:TypeId}{pos:String}{aQ:Array Edge}{bn:Option (Nat×Bool)}
@[simp]theorem arc{α β:Type}[DecidableEq α](f:α->β)(k j:α)(v:β):aj f k v j=if j=k then v else f j:=rfl
@[simp]theorem arb(t:Nat->U):cT t []=t:=rfl
@[simp]theorem ara(t:Nat->U)(i:Nat)(v:U)(l:List (Nat×U)):cT t ((i,v)::l)=aj (cT t l) i v:=rfl
@[simp]theorem aq9(h:Id->Option (Option Rows)):aZ h []=h:=rfl
@[simp]theorem aq8(h:Id->Option (Option Rows))(i:Id)(v:Option Rows)(l:List (Id×Option Rows)):aZ h ((i,v)::l)=aj (aZ h l) i (some v):=rfl
@[simp]theorem amH(n:Nat)(t:Nat->U)(h:Id->Option (Option Rows))(dA:List (Nat×U))(rd:List Id)(wr:List (Id×Option Rows)):ah.app ⟨n,t,h⟩ ⟨dA,rd,wr⟩=⟨n,cT t dA,aZ h wr⟩:=rfl
/-! ### Operands, guards -/
@[simp]theorem anV(t:Nat):S.get C (.tmp t)=S.t t:=rfl
@[simp]theorem anP(k:IntKind)(n:Int):S.get C (.const (.int k n))= .val (.int k n):=rfl
@[simp]theorem anM(b:Bool):S.get C (.const (.bool b))= .val (.bool b):=rfl
@[simp]theorem anU(s:ByteArray):S.get C (.const (.string s))= .val (.string s):=rfl
@[simp]theorem anS:S.get C (.const (.pointer none))= .val (.pointer none):=rfl
@[simp]theorem anT:S.get C (.const (.slice none 0 0))= .ct:=rfl
@[simp]theorem anR:S.get C (.const .nilIface)= .val .nilIface:=rfl
@[simp]theorem anQ:S.get C (.const .nilFunc)= .val .nilFunc:=rfl
@[simp]theorem anN(k:FuncId):S.get C (.func k)= .fn (.func k) [] []:=rfl
@[simp]theorem anO(k:Nat):S.get C (.global k)=match C.cu k with|some cs=> .ay cs|none=> .bf:=rfl
@[simp]theorem aq4(v:Value):un g (.val v)= .val v:=rfl
@[simp]theorem aqZ(r:Rows):un g (.sl r)= .sl r:=rfl
@[simp]theorem aq5(c:List U):un g (.ay c)= .ay c:=rfl
@[simp]theorem aq0:un g .ct= .ct:=rfl
@[simp]theorem aqY(i:Id)(a b:Nat):un g (.rs i a b)= .rs i a b:=rfl
@[simp]theorem aqV(i:Id)(a b:Nat):un g (.mp i a b)= .mp i a b:=rfl
@[simp]theorem aqO(k:Fn)(a b:List U):un g (.fn k a b)= .fn k a b:=rfl
@[simp]theorem aqJ(c:List U):un g (.agg c)= .agg c:=rfl
@[simp]theorem aq3(c:List U):un g (.aU c)= .aU c:=rfl
@[simp]theorem aqP:un g .bf= .bf:=rfl
@[simp]theorem aqX(r:Rows)(m:Nat):un g (.own r m)= .own r m:=rfl
@[simp]theorem Vu(x:U):un g (.c8 g x)=x:=by cases g<;>rfl
@[simp]theorem aq2(x:U):un g (.c8 true x)=x:=by cases g<;>rfl
@[simp]theorem aqK(h:Bool)(x:U):un (g&&h) (.c8 g x)=x:=by cases g<;>cases h<;>rfl
@[simp]theorem aqL(h:Bool)(x:U):un (g&&h) (.c8 (g&&h) x)=x:=Vu x
@[simp]theorem aqM(h:Bool)(x:U):un (g&&h) (.c8 h x)=x:=by cases g<;>cases h<;>rfl
@[simp]theorem aqN(h k:Bool)(x:U):un (g&&h&&k) (.c8 g x)=x:=by cases g<;>cases h<;>cases k<;>rfl
@[simp]theorem amJ(b:Bool):ng (.val (.bool b))=b:=rfl
@[simp]theorem am9{op:Op}:u5 C f call S ops ⟨d,op,ty,pos,aQ,none⟩=bk C f call S true ⟨d,op,ty,pos,aQ,none⟩:=rfl
def F2(C:aF)(f:FuncId)(call:FuncId->List U->Option (U×List U))(S:ah)(o:Oper)(g:Bool):Option bh:=match bk C f call S g o with|some e=>if e.wr.isEmpty then some {e with dA:=e.dA.map fun x=>(x.1, .c8 g x.2)}else if g then some e else some (AJ o)|none=>if g then none else some (AJ o)
def z8(want:Bool):U->Option Bool| .val (.bool b)=>some (b==want)| .c8 g (.val (.bool b))=>some (g&&(b==want))| .c8 false _=>some false|_=>none
@[simp]theorem anY(w b:Bool):z8 w (.val (.bool b))=some (b==w):=rfl
@[simp]theorem anW(w b g:Bool):z8 w (.c8 g (.val (.bool b)))=some (g&&(b==w)):=rfl
def tH(w:Bool)(S:ah):Option Nat->Option Bool|some d=>z8 w (S.t d)|none=>none
@[simp]theorem Rn(w:Bool)(d:Nat):tH w S (some d)=z8 w (S.t d):=rfl
def JM(ops:Array Oper)(j:Nat):Option Nat:=(ops[j]?).bind (·.dst)
def p0:List Oper->Nat->Option Nat|[],_=>none|o::_,0=>o.dst|_::l,j+1=>p0 l j
theorem abD(l:List Oper)(j:Nat):JM ⟨l⟩ j=p0 l j:=by unfold JM;simp only[List.getElem?_toArray];induction l generalizing j with|nil=>(simp[p0])|cons o l ih=>cases j with|zero=>(simp[p0])|succ j=>simpa[p0]using ih j
def PS(C:aF)(f:FuncId)(call:FuncId->List U->Option (U×List U))(S:ah)(o:Oper):Option Bool->Option bh|some g=>F2 C f call S o g|none=>none
@[simp]theorem FO(o:Oper)(g:Bool):PS C f call S o (some g)=F2 C f call S o g:=rfl
def Gq:List (Nat×U)->Bool->List (Nat×U)|[],_=>[]|x::l,g=>(x.1, .c8 g x.2)::Gq l g
def JE(o:Oper)(g:Bool):Option bh->Option bh|some e=>if e.wr.isEmpty then some ⟨Gq e.dA g,e.rd,e.wr⟩else if g then some e else some (AJ o)|none=>if g then none else some (AJ o)
theorem adw(l:List (Nat×U))(g:Bool):Gq l g=l.map fun x=>(x.1, .c8 g x.2):=by induction l with|nil=>(rfl)|cons x l ih=>simp[Gq,ih]
@[simp]theorem F3(o:Oper)(g:Bool):F2 C f call S o g=JE o g (bk C f call S g o):=by unfold F2 JE;split<;>simp_all[adw]
@[simp]theorem am0(o:Oper)(g:Bool)(t:Nat)(v:U)(rd:List Id):JE o g (some ⟨[(t,v)],rd,[]⟩)=some ⟨[(t, .c8 g v)],rd,[]⟩:=rfl
@[simp]theorem F1{op:Op}{j:Nat}{w:Bool}{l:List Oper}:u5 C f call S ⟨l⟩ ⟨d,op,ty,pos,aQ,some (j,w)⟩=PS C f call S ⟨d,op,ty,pos,aQ,some (j,w)⟩ (tH w S (p0 l j)):=by rw[<-abD];unfold u5 r7 JM;simp only;cases((⟨l⟩:Array Oper)[j]?).bind (·.dst)with|none=>(rfl)|some d=>simp only[Rn];cases S.t d with|val v=>(cases v<;>rfl)|c8 g x=>(cases x with|val v=>(cases v<;>cases g<;>rfl)|_=>cases g<;>rfl)|_=>rfl
@[simp]theorem anX(w:Bool)(x:U):z8 w (.c8 false x)=some false:=by cases x with|val v=>(cases v<;>rfl)|_=>rfl
variable{op:Op}
@[simp]theorem apA{t:Nat}(v:U):ret ⟨some t,op,ty,pos,aQ,bn⟩ v=some ⟨[(t,v)],[],[]⟩:=rfl
@[simp]theorem apu{t:Nat}(v:U)(rd:List Id)(wr:List (Id×Option Rows)):put ⟨some t,op,ty,pos,aQ,bn⟩ v rd wr=⟨[(t,v)],rd,wr⟩:=rfl
@[simp]theorem apt(v:U)(rd:List Id)(wr:List (Id×Option Rows)):put ⟨none,op,ty,pos,aQ,bn⟩ v rd wr=⟨[],rd,wr⟩:=rfl
@[simp]theorem apz(o:Oper)(v:Value):kX o (some v)=if eo v then ret o (.val v)else none:=rfl
@[simp]theorem aoF(k:IntKind)(n:Int):eo (.int k n)=true:=rfl
@[simp]theorem aoE(b:Bool):eo (.bool b)=true:=rfl
@[simp]theorem aoG(b:ByteArray):eo (.string b)=true:=rfl
@[simp]theorem ana(o:Oper)(h x y:Bool):va o (.val (.bool h)) (.val (.bool x)) (.val (.bool y))=ret o (.val (.bool (if h then x else y))):=rfl
@[simp]theorem aql(v:Value):mw (.val v)=some v:=rfl
@[simp]theorem aqk(c:List U):mw (.agg c)=(jm c).map fun vs=> .agg ⟨vs⟩:=rfl
@[simp]theorem aqn:jm []=some []:=rfl
@[simp]theorem aqm(v:Value)(l:List U):jm (.val v::l)=(jm l).map (v::·):=rfl
@[simp]theorem aoD(k:IntKind)(n:Int):en (.val (.int k n))=some n:=rfl
@[simp]theorem am8{o:Oper}{op:BinOp}{t:TypeId}{x y:Operand}{e7 iq:Value}:nk C o op t x y (.val e7) (.val iq)=kX o (dY C.P op t x y e7 iq):=rfl
@[simp]theorem anb{o:Oper}{op:UnOp}{e7:Value}:xo C o op (.val e7)=kX o (Bz C.P op e7):=rfl
theorem abR{o:Oper}{s t:TypeId}{e7:Value}(h:uU C s t=false):tB C o s t (.val e7)=kX o (FP C.P s t e7):=by simp[tB,h,Cx]
variable{P:Program}{t:TypeId}{x y:Operand}{k:IntKind}{a b:Int}
@[simp]theorem Zy:dY P .add t x y (.int k a) (.int k b)=some (.int k (k.wrap (a+b))):=by simp[dY,eqGuard,binOp,Op.intArith,cG,bind,Sem.bind,pure]
@[simp]theorem ZM:dY P .sub t x y (.int k a) (.int k b)=some (.int k (k.wrap (a-b))):=by simp[dY,eqGuard,binOp,Op.intArith,cG,bind,Sem.bind,pure]
@[simp]theorem ZG:dY P .mul t x y (.int k a) (.int k b)=some (.int k (k.wrap (a*b))):=by simp[dY,eqGuard,binOp,Op.intArith,cG,bind,Sem.bind,pure]
@[simp]theorem Zz:dY P .eql t x y (.int k a) (.int k b)=some (.bool (a==b)):=by simp[dY,eqGuard,binOp,Op.intCmp,cG,bind,Sem.bind,pure]
@[simp]theorem ZH:dY P .neq t x y (.int k a) (.int k b)=some (.bool (a !=b)):=by simp[dY,eqGuard,binOp,Op.intCmp,cG,bind,Sem.bind,pure]
@[simp]theorem ZF:dY P .lss t x y (.int k a) (.int k b)=some (.bool (decide (a<b))):=by simp[dY,eqGuard,binOp,Op.intCmp,cG,bind,Sem.bind,pure]
@[simp]theorem ZE:dY P .leq t x y (.int k a) (.int k b)=some (.bool (decide (a<=b))):=by simp[dY,eqGuard,binOp,Op.intCmp,cG,bind,Sem.bind,pure]
@[simp]theorem ZD:dY P .gtr t x y (.int k a) (.int k b)=some (.bool (decide (b<a))):=by simp[dY,eqGuard,binOp,Op.intCmp,cG,bind,Sem.bind,pure]
@[simp]theorem ZC:dY P .geq t x y (.int k a) (.int k b)=some (.bool (decide (b<=a))):=by simp[dY,eqGuard,binOp,Op.intCmp,cG,bind,Sem.bind,pure]
@[simp]theorem aqW{b:Bool}:Bz P .not (.bool b)=some (.bool !b):=rfl
@[simp]theorem aoJ{α β:Type}(c:Prop)[Decidable c](a b:Option α)(k:α->Option β):(if c then a else b).bind k=if c then a.bind k else b.bind k:=by split<;>rfl
@[simp]theorem aoK{α β:Type}(c:Prop)[Decidable c](a b:Option α)(k:α->β):(if c then a else b).map k=if c then a.map k else b.map k:=by split<;>rfl
/-! ### Ends -/
variable{L:Id->Option (Option Rows)}{n:Nat}
@[simp]theorem apd(v:Value):pk L (n+1) (.val v)=some (.val v,[]):=rfl
@[simp]theorem apb(r:Rows):pk L (n+1) (.sl r)=some (.sl r,[]):=rfl
@[simp]theorem ape(r:List U):pk L (n+1) (.ay r)=some (.ay r,[]):=rfl
@[simp]theorem apc:pk L (n+1) .ct=some (.own [] 0,[]):=rfl
@[simp]theorem apa:pk L (n+1) .bf=some (.bf,[]):=rfl
@[simp]theorem aoB(p:Id)(v:Value):imp p (.val v)=(.val v,[]):=rfl
@[simp]theorem aoA(p:Id)(r:Rows):imp p (.sl r)=(.sl r,[]):=rfl
@[simp]theorem aoC(p:Id)(r:List U):imp p (.ay r)=(.ay r,[]):=rfl
@[simp]theorem aoy(p:Id):imp p .bf=(.bf,[]):=rfl
@[simp]theorem aoz(p:Id)(r:Rows)(m:Nat):imp p (.own r m)=(.rs p 0 m,[(p,some r)]):=rfl
@[simp]theorem anJ:eC []=true:=rfl
@[simp]theorem anI(r:List U)(l:Rows):eC (r::l)=(cN r&&eC l):=by simp[eC]
@[simp]theorem Gb:cN []=true:=rfl
@[simp]theorem Ga(r:U)(l:List U):cN (r::l)=(flat r&&cN l):=by simp[cN]
@[simp]theorem Gi(v:Value):flat (.val v)=true:=by simp[flat]
@[simp]theorem Gh(v:Rows):flat (.sl v)=true:=by simp[flat]
@[simp]theorem Gf(v:Rows):flat (.ef v)=true:=by simp[flat]
@[simp]theorem Ge(v:Rows):flat (.im v)=true:=by simp[flat]
@[simp]theorem anK(v:List U):flat (.ay v)=true:=by simp[flat]
@[simp]theorem Gg(v:Rows)(m:Nat):flat (.own v m)=eC v:=by simp[flat]
theorem acn{α:Type}(g:α->List U)(l:List α)(h:∀x,cN (g x)=true):eC (l.map g)=true:=by induction l with|nil=>(simp)|cons x l ih=>simp[h,ih]
theorem Ua{id:Id}{len:Nat}{rows:Rows}(h:L id=some (some rows))(hl:len<=rows.length)(hf:eC rows=true):pk L (n+1) (.rs id 0 len)=some (.own rows len,[id]):=by simp[pk,mm,h,hl,hf]
@[simp]theorem akm(m:Nat)(t:Nat->U)(h:Id->Option (Option Rows))(slots:List Nat):jG ⟨m,t,h⟩ slots=(j8 h t slots).bind fun x=>if dV x.2 then some x.1 else none:=by unfold jG;dsimp only;cases j8 h t slots<;>rfl
@[simp]theorem ao0(t:Nat->U):j8 L t []=some ([],[]):=rfl
@[simp]theorem ajp(t:Nat->U)(s:Nat)(l:List Nat):j8 L t (s::l)=(pk L 9 (t s)).bind fun x=>(j8 L t l).map fun y=>(x.1::y.1,x.2++y.2):=rfl
@[simp]theorem aoU(m:Nat)(v:List U):aH m [] v=⟨m,fun _=> .bf,fun _=>none⟩:=rfl
@[simp]theorem aoT(m s:Nat)(l:List Nat)(v:U)(vs:List U):aH m (s::l) (v::vs)=⟨m,aj (aH m l vs).t s (imp [s] v).1,aZ (aH m l vs).h (imp [s] v).2⟩:=rfl
@[simp]theorem apw{t:Nat}:vX C S (.tmp t)=pk S.h 9 (un true (S.t t)):=rfl
@[simp]theorem apy:kW C S []=some ([],[]):=rfl
@[simp]theorem apx{r:ResultVar}{l:List ResultVar}:kW C S (r::l)=(vX C S r).bind fun x=>(kW C S l).map fun y=>(x.1::y.1,x.2++y.2):=rfl
end
open Go Go.ChangeShapes Go.WideShapes Go.ChangeAt Go.RowKit
def D5(P:Program):Nat->List Field->Nat->Bool|o,[],tot=>o==tot|o,f::fs,tot=>f.offset==o&&D5 P (o+P.cellsOf f.type) fs tot
def uo(P:Program):Nat->TypeId->Bool|0,_=>false|n+1,t=>match P.underlying t with|some .bool=>P.cellsOf t==1|some (.int _)=>P.cellsOf t==1|some .string=>P.cellsOf t==1|some (.slice e)=>P.cellsOf t==1&&(decide (0<P.cellsOf e)&&uo P n e)|some (.struct fs)=>D5 P 0 fs.toList (P.cellsOf t)&&fs.toList.all fun f=>uo P n f.type|_=>false
mutual inductive iW(P:Program)(B:Nat):TypeId->List U->Prop|bool{t:TypeId}{b:Bool}:P.underlying t=some .bool->iW P B t [.val (.bool b)]|int{t:TypeId}{k:IntKind}{n:Int}:P.underlying t=some (.int k)->(Lit.int k n).wf=true->iW P B t [.val (.int k n)]|str{t:TypeId}{s:ByteArray}:P.underlying t=some .string->s.size<=B->iW P B t [.val (.string s)]|sl{t e:TypeId}{rows:Rows}:P.underlying t=some (.slice e)->rows.length<=B->rR P B e rows->iW P B t [.sl rows]|st{t:TypeId}{fs:Array Field}{cells:List U}:P.underlying t=some (.struct fs)->s6 P B fs.toList cells->iW P B t cells inductive s6(P:Program)(B:Nat):List Field->List U->Prop|nil:s6 P B [] []|cons{f:Field}{fs:List Field}{a b:List U}:iW P B f.type a->s6 P B fs b->s6 P B (f::fs) (a++b)inductive rR(P:Program)(B:Nat):TypeId->Rows->Prop|nil{e:TypeId}:rR P B e []|cons{e:TypeId}{r:List U}{rs:Rows}:iW P B e r->rR P B e rs->rR P B e (r::rs)end
mutual def gR{H:Type}:DataW H->Nat| .lit (.string bytes)=>bytes.length+1| .lit _=>1| .nil=>1| .ptr d=>gR d+1| .slice elems spare=>tg elems+tg spare+1| .agg parts=>tg parts+1| .iface _ d=>gR d+1| .map entries=>Pk entries+1| .held _=>1 def tg{H:Type}:List (DataW H)->Nat|[]=>0|d::r=>gR d+tg r def Pk{H:Type}:List (Lit×DataW H)->Nat|[]=>0|x::r=>ZN x+Pk r def ZN{H:Type}:Lit×DataW H->Nat|(.string bytes,d)=>bytes.length+gR d+1|(_,d)=>gR d+1 end
theorem ZP{H:Type}(d:DataW H):1<=gR d:=by cases d with|lit l=>(cases l<;>simp[gR])|_=>simp[gR]
theorem Pm{H:Type}{d:DataW H}{l:List (DataW H)}(h:d∈l):gR d<=tg l:=by induction l with|nil=>(cases h)|cons x r ih=>simp only[tg];cases List.mem_cons.1 h with|inl e=>(subst e;omega)|inr e=>have:=ih e;omega
theorem ZO{H:Type}(l:List (DataW H)):l.length<=tg l:=by induction l with|nil=>(simp[tg])|cons x r ih=>have:=ZP x;simp only[tg,List.length_cons];omega
def Small{H:Type}(B:Nat)(d:DataW H):Prop:=B=maxLen∨gR d<=B
theorem rR.snoc{P:Program}{B:Nat}{e:TypeId}:∀{rs:Rows}{r:List U},rR P B e rs->iW P B e r->rR P B e (rs++[r])|[],_,_,h=> .cons h .nil|_::_,_, .cons h1 h2,h=> .cons h1 (rR.snoc h2 h)
section
variable{H:Type}{enc:TypeId×Value->H}{P:Program}{w:World}{base:Nat}{spare:Nat->Bool}{held:Bool}{B:Nat}
theorem PF{a:Addr}{n:Nat}{cs:List Value}(h:w.cells? base a n=some cs):cs.length=n∧∀(i:Nat)v,cs[i]? =some v->w.cell? (a.add i)=some v:=by obtain⟨h1,h2,h3⟩:=World.cells?_some h;refine⟨h2,fun i v hv=> ?_⟩;have hi:i<n:=by{rcases Do i n with hi|hi;·{exact hi};·rw[List.getElem?_eq_none (by omega)]at hv;cases hv};rw[h3 i hi,hv]
theorem alJ{n:Nat}(ih:∀(t:TypeId)(cs:List Value)(x:DataW H×List MemPlace),uo P n t=true->∀fuel,DataW.trod enc P w base spare held fuel t cs=some x->Small B x.1->cs.length=P.cellsOf t∧∃cells,av w (·<w.heap.size) bL [] cs cells∧iW P B t cells){fuel:Nat}{cs:List Value}:∀(fs:List Field)(o:Nat)(xs:List (DataW H×List MemPlace)),D5 P o fs cs.length=true->(fs.all fun f=>uo P n f.type)=true->fs.mapM (fun f=>DataW.trod enc P w base spare held fuel f.type ((cs.drop f.offset).take (P.cellsOf f.type)))=some xs->(∀y∈xs,Small B y.1)->∃cells,av w (·<w.heap.size) bL [] (cs.drop o) cells∧s6 P B fs cells:=by intro fs;induction fs with|nil=>(intro o xs ho _ _ _;simp only[D5,beq_iff_eq]at ho;exact⟨[],by rw[List.drop_of_length_le (by omega)];exact .nil, .nil⟩)|cons f fs afW=>intro o xs ho hp hm hB;simp only[D5,AC,beq_iff_eq]at ho;simp only[List.all_cons,AC]at hp;simp only[List.mapM_cons,Option.bind_eq_bind,Option.bind_eq_some_iff]at hm;obtain⟨x,hx,xs',hxs,afM⟩:=hm;obtain rfl:x::xs'=xs:=by{simpa using afM};obtain⟨hl,c1,h1,h2⟩:=ih _ _ _ hp.1 fuel hx (hB _ (List.mem_cons_self ..));obtain⟨c2,h3,h4⟩:=afW _ _ ho.2 hp.2 hxs fun y hy=>hB y (List.mem_cons_of_mem _ hy);rw[ho.1]at h1;refine⟨c1++c2, ?_, .cons h2 h4⟩;have:=av.append h1 h3;rw[<-List.drop_drop,List.take_append_drop]at this;exact this
theorem akA{e:TypeId}(ih:∀(cs:List Value)(x:DataW H×List MemPlace),∀fuel,DataW.trod enc P w base spare held fuel e cs=some x->Small B x.1->cs.length=P.cellsOf e∧∃cells,av w (·<w.heap.size) bL [] cs cells∧iW P B e cells)(h0:0<P.cellsOf e){fuel:Nat}{a:Addr}:∀(len:Nat),(∀i,i<len->∃x,(w.cells? base (a.add (i*P.cellsOf e)) (P.cellsOf e)).bind (DataW.trod enc P w base spare held fuel e)=some x∧Small B x.1)->∃(vs:List Value)(rows:Rows),vs.length=len*P.cellsOf e∧rows.length=len∧(∀r∈rows,r.length=P.cellsOf e)∧(∀k v,vs[k]? =some v->w.cell? (a.add k)=some v)∧av w (·<w.heap.size) bL [] vs rows.flatten∧rR P B e rows:=by intro len;induction len with|zero=>(intro _;exact⟨[],[],by simp,rfl,by simp,by simp, .nil, .nil⟩)|succ len ihl=>intro hel;obtain⟨vs,rows,h1,h2,h3,h4,h5,h6⟩:=ihl fun i hi=>hel i (by omega);obtain⟨x,hx,afJ⟩:=hel len (by omega);obtain⟨us,hu,ht⟩:=Option.bind_eq_some_iff.1 hx;obtain⟨g1,g2⟩:=PF hu;obtain⟨k1,cells,k2,cO⟩:=ih _ _ fuel ht afJ;refine⟨vs++us,rows++[cells],by simp[h1,g1,Nat.succ_mul],by simp[h2],fun r hr=> ?_,fun k v hk=> ?_, ?_,h6.snoc cO⟩;·{rcases List.mem_append.1 hr with hr|hr;·{exact h3 r hr};·simp at hr;subst hr;rw[<-k2.length,g1]};·{rcases Do k vs.length with hlt|hge;·{rw[List.getElem?_append_left hlt]at hk;exact h4 k v hk};·rw[List.getElem?_append_right hge]at hk;have:=g2 _ v hk;have e:(a.add (len*P.cellsOf e)).add (k-vs.length)=a.add k:=by{unfold Addr.add;by_cases mb:k=0;·{subst mb;have:vs.length=0:=by{omega};have:len*P.cellsOf e=0:=by{omega};simp[this]};·by_cases hd:k-vs.length=0;·{have:len*P.cellsOf e=k:=by{omega};simp[hd,this]};·by_cases hl:len*P.cellsOf e=0;·{simp[hl,hd,mb];omega};·simp[hl,hd,mb];omega};rw[e]at this;exact this};·rw[List.flatten_append];simpa using av.append h5 k2
theorem alC:∀(n:Nat)(t:TypeId)(cs:List Value)(x:DataW H×List MemPlace),uo P n t=true->∀fuel,DataW.trod enc P w base spare held fuel t cs=some x->Small B x.1->
  cs.length=P.cellsOf t∧∃cells,av w (·<w.heap.size) bL [] cs cells∧iW P B t cells:=by
 intro n
 induction n with
 |zero=>intro t cs x h;simp[uo]at h
 |succ n ih=>
  intro t cs x hp fuel h hB
  cases fuel with
  |zero=>simp[DataW.trod]at h
  |succ fuel=>
   unfold uo at hp
   split at hp
   ·rename_i hu
    simp only[DataW.trod,hu]at h
    simp only[beq_iff_eq]at hp
    split at h<;>first|(simp_all;done)|skip
    rename_i b _ _
    exact⟨by simp[hp],_, .cons (.val rfl) .nil, .bool hu⟩
   ·rename_i k hu
    simp only[DataW.trod,hu]at h
    simp only[beq_iff_eq]at hp
    split at h<;>first|(simp_all;done)|skip
    rename_i k1 k2 m hk
    simp only[GE,TypeDesc.int.injEq]at hk;subst hk
    split at h
    ·rename_i hc
     obtain⟨rfl,hw⟩:=hc
     exact⟨by simp[hp],_, .cons (.val rfl) .nil, .int hu hw⟩
    ·cases h
   ·rename_i hu
    simp only[DataW.trod,hu]at h
    simp only[beq_iff_eq]at hp
    split at h<;>first|(simp_all;done)|skip
    rename_i b _
    split at h
    ·rename_i hc
     obtain rfl:=Option.some.inj h
     refine⟨by simp[hp],_, .cons (.val rfl) .nil, .str hu ?_⟩
     rcases hB with hB|hB
     ·omega
     ·simp only[gR,Array.length_toList]at hB
      have :b.size=b.data.size:=rfl
      omega
    ·cases h
   ·rename_i e hu
    simp only[DataW.trod,hu]at h
    simp only[AC,beq_iff_eq,decide_eq_true_eq]at hp
    obtain⟨GV,Aw,Ld⟩:=hp
    split at h<;>first|(simp_all;done)|skip
    ·rename_i e1 he
     exact⟨by simp[GV],_, .cons .gF .nil, .sl (rows:=[]) hu (by simp) .nil⟩
    ·rename_i e1 a len cap he
     simp only[GE,TypeDesc.slice.injEq]at he;subst he
     split at h
     ·rename_i hc
      obtain⟨aeo,jW,an6⟩:=hc
      obtain⟨elems,hel,vt⟩:=Option.bind_eq_some_iff.1 h
      obtain⟨rest,_,rfl⟩:=Option.map_eq_some_iff.1 vt
      have tS:∀y∈elems,Small B y.1:=fun y hy=>hB.imp id fun hB=>by
       have :=Pm (GT (f:=fun z:DataW H×List MemPlace=>z.1) hy)
       simp only[gR]at hB;omega
      have hlen:elems.length=len:=by simpa using mapM_some_length hel
      have sj:∀i,i<len->∃x,(w.cells? base (a.add (i*P.cellsOf e)) (P.cellsOf e)).bind (DataW.trod enc P w base spare held fuel e)=some x∧Small B x.1:=fun i hi=>by
       have :=mapM_some_get hel i i (by simp[hi])
       exact⟨elems[i],by rw[this,List.getElem?_eq_getElem (by omega)],tS _ (List.getElem_mem _)⟩
      have aoi:len<=B:=by
       rcases hB with hB|hB
       ·omega
       ·have :=ZO (elems.map (·.1))
        rw[List.length_map]at this
        simp only[gR]at hB;omega
      obtain⟨vs,rows,h1,h2,h3,h4,h5,h6⟩:=akA (fun cs x fuel hx hs=>ih e cs x Ld fuel hx hs) Aw len sj
      refine⟨by simp[GV],[.sl rows], ?_, .sl hu (by omega) h6⟩
      refine .cons (f1:=[]) (f2:=[]) ?_ .nil
      rcases Nat.eq_zero_or_pos len with h0|h0
      ·subst h0
       have :rows=[]:=List.length_eq_zero_iff.1 h2
       subst this
       exact .gF
      ·have Dm:0<vs.length:=by rw[h1];exact Nat.mul_pos h0 Aw
       have hc0:=h4 0 vs[0] (by simp[Dm])
       have ha:a.add 0=a:=rfl
       rw[ha]at hc0
       obtain⟨b,off,spot⟩:=a
       have hb:spot=none∧b<w.heap.size:=by
        unfold World.cell? at hc0
        split at hc0
        ·rename_i hh
         refine⟨?_, ?_⟩
         ·cases spot with
          |none=>rfl
          |some z=>simp at hc0
         ·rcases Do b w.heap.size with hb|hb
          ·exact hb
          ·rw[Array.getElem?_eq_none hb]at hh;cases hh
        ·cases hc0
       obtain⟨rfl,hb⟩:=hb
       have :=R.sl (w:=w) (I:=(·<w.heap.size)) (β:=bL) (b:=b) (o:=off) (cap:=cap) h3 hb (fun k v hk=>by
        have :=h4 k v hk
        unfold Addr.add at this
        by_cases mb:k=0
        ·subst mb;simpa using this
        ·simpa[mb]using this) (by omega) h5
       rw[h2]at this
       exact this
     ·cases h
   ·rename_i fs hu
    simp only[DataW.trod,hu]at h
    simp only[AC]at hp
    split at h<;>first|(simp_all;done)|skip
    rename_i hc
    obtain⟨xs,hxs,rfl⟩:=Option.map_eq_some_iff.1 h
    have tS:∀y∈xs,Small B y.1:=fun y hy=>hB.imp id fun hB=>by
     have :=Pm (GT (f:=fun z:DataW H×List MemPlace=>z.1) hy)
     simp only[gR]at hB;omega
    obtain⟨cells,g1,g2⟩:=alJ (fun t cs x hp fuel hx hs=>ih t cs x hp fuel hx hs) fs.toList 0 xs (by rw[hc];exact hp.1) hp.2 hxs tS
    exact⟨hc,cells,by simpa using g1, .st hu g2⟩
   ·cases hp
end
theorem SA{w w':World}(h:Kept w w' (·∈([]:List Nat))):w.keptBut w' (fun _=>False):=by refine⟨h.os,h.out,fun i hi=> ?_⟩;have e:=h.blk i hi (by simp);rw[e];cases hx:w.heap[i]? with|none=>(trivial)|some o=>cases o<;>simp
theorem akP{w w':World}(h:w.keptBut w' (fun _=>False)){p:MemPlace}(hp:p.block<w.heap.size)(hc:Kept w w' (·∈([]:List Nat))):w.sameAt w' p:=by have e:=hc.blk p.block hp (by simp);cases p with|cell b off=>(exact cell_of_heap e)|map b=>exact e
theorem Zd{C:aF}(ew:Good C){f:FuncId}{nn:Nat}{args:List U}(KN:den C nn f args=some (B true,[]))(dR:C.gT f=false:=by rfl){W:World}{vs:List Value}(hargs:av W (·<W.heap.size) bL [] vs args)(xK:∀g cs,C.cu g=some cs->R W (·<W.heap.size) bL [] (.pointer (some ⟨g,0,none⟩)) (.ay cs)){fn:Func}{c:Code}(hf:C.P.funcs[f]? =some fn)(hb:fn.body=some c):Calls C.P f ⟨vs⟩ W fun e W'=>e= .returned (.bool true)∧Kept W W' (·∈([]:List Nat)):=by have hs:=(TN ew _ _ _ _ KN).1 dR W (·<W.heap.size) [] vs hargs List.nodup_nil (fun b hb=>⟨hb,by simp⟩) (fun b hb=>by cases hb) xK;have hv:∀ls v w',wQ W [] (·<W.heap.size) ls (B true,[]) v w'->v= .bool true∧Kept W w' (·∈([]:List Nat)):=fun ls v w' h=>by{obtain⟨I',fr,h1,_⟩:=h.ex;obtain⟨f1,f2,v',vs',_,e,k1,_⟩:=av.cons_inv h1;simp only[List.cons.injEq]at e;rw[e.1];exact⟨k1.gB.2,h.kept⟩};rcases hs with⟨fn',c',_,_,h3⟩|⟨v,w',h1,_⟩;·{exact h3.mono fun e W'⟨v,he,hr⟩=>by obtain⟨rfl,hk⟩:=hv _ v W' hr;exact⟨he,hk⟩};·rw[v7 ew.count.no hf hb]at h1;cases h1
section
variable{H:Type}{enc:TypeId×Value->H}{P:Program}
theorem Zk(hl:laidOutB P=true)(hm:mapsRowed P=true)(hz:((List.range P.types.size).all fun t=>match P.underlying t with|some (.slice e)=>decide (0<P.cellsOf e)|_=>true)=true){W W':World}{ts:List TypeId}(hT:∀t∈ts,t<P.types.size){vs:List Value}{ds:List (DataW H)}{ps:List MemPlace}(hA:DataW.TrodAll enc P W 0 (fun _=>true) true ts vs ds ps)(hlt:∀p∈ps,p.block<W.heap.size)(hk:Kept W W' (·∈([]:List Nat)))(sp:Nat->Bool)(hsp:∀p∈ps,sp p.block=true):DataW.TrodAll enc P W' 0 sp true ts vs ds ps:=by have h1:=DataW.TrodAll.respare (kids_rows hl hm) (slices_full_of P hz) hT hA hsp;clear hA hsp hT;induction ts generalizing vs ds ps with|nil=>(cases vs<;>cases ds<;>first|exact h1|(simp[DataW.TrodAll]at h1))|cons t ts ih=>cases vs with|nil=>(simp[DataW.TrodAll]at h1)|cons v vs=>cases ds with|nil=>(simp[DataW.TrodAll]at h1)|cons d ds=>obtain⟨p,q,⟨fuel,h2⟩,h3,rfl⟩:=h1;refine⟨p,q,⟨fuel,DataW.trod_carry _ _ _ _ h2 fun x hx=>akP (SA hk) (hlt x (List.mem_append_left _ hx)) hk⟩,ih (fun x hx=>hlt x (List.mem_append_right _ hx)) h3,rfl⟩
theorem alB{W:World}{base:Nat}{sp:Nat->Bool}{hd:Bool}{t:TypeId}{v:Value}{d:DataW H}{ps:List MemPlace}{n:Nat}(hp:uo P n t=true)(h:DataW.Trod enc P W base sp hd t v d ps){B:Nat}(hB:Small B d):∃cells,av W (·<W.heap.size) bL [] v.cells.toList cells∧iW P B t cells:=by obtain⟨fuel,h⟩:=h;exact(alC n t _ _ hp fuel h hB).2
end
section
variable{P:Program}{t:TypeId}{cells:List U}{B:Nat}
theorem Cq{k:IntKind}(hu:P.underlying t=some (.int k))(h:iW P B t cells):∃n,cells=[.val (.int k n)]∧(Lit.int k n).wf=true:=by cases h with|int h1 h2=>(rw[hu]at h1;cases h1;exact⟨_,rfl,h2⟩)|bool h1=>(rw[hu]at h1;cases h1)|str h1=>(rw[hu]at h1;cases h1)|sl h1=>(rw[hu]at h1;cases h1)|st h1=>rw[hu]at h1;cases h1
theorem abw(hu:P.underlying t=some .string)(h:iW P B t cells):∃n,cells=[.val (.string n)]∧n.size<=B:=by cases h with|str h1 h2=>(exact⟨_,rfl,h2⟩)|int h1=>(rw[hu]at h1;cases h1)|bool h1=>(rw[hu]at h1;cases h1)|sl h1=>(rw[hu]at h1;cases h1)|st h1=>rw[hu]at h1;cases h1
theorem Qe{α:Type}{e:TypeId}{c:α->List U}{ok:α->Prop}(hd:∀cells,iW P B e cells->∃x,cells=c x∧ok x):∀{rows:Rows},rR P B e rows->∃l:List α,rows=l.map c∧∀x∈l,ok x|[],_=>⟨[],rfl,by simp⟩|_::_, .cons h1 h2=>by obtain⟨x,rfl,hx⟩:=hd _ h1;obtain⟨l,rfl,hl⟩:=Qe hd h2;exact⟨x::l,rfl,by simpa using⟨hx,hl⟩⟩
theorem Qf{α:Type}{e:TypeId}{c:α->List U}{ok:α->Prop}(hu:P.underlying t=some (.slice e))(hd:∀cells,iW P B e cells->∃x,cells=c x∧ok x)(h:iW P B t cells):∃l:List α,cells=[.sl (l.map c)]∧(l.length<=B∧∀x∈l,ok x):=by cases h with|sl h1 h2 h3=>(rw[hu]at h1;cases h1;obtain⟨l,rfl,hl⟩:=Qe hd h3;exact⟨l,rfl,by simpa using h2,hl⟩)|int h1=>(rw[hu]at h1;cases h1)|bool h1=>(rw[hu]at h1;cases h1)|str h1=>(rw[hu]at h1;cases h1)|st h1=>rw[hu]at h1;cases h1
theorem Qc{fs:Array Field}(hu:P.underlying t=some (.struct fs))(h:iW P B t cells):s6 P B fs.toList cells:=by cases h with|st h1 h2=>(rw[hu]at h1;cases h1;exact h2)|int h1=>(rw[hu]at h1;cases h1)|bool h1=>(rw[hu]at h1;cases h1)|str h1=>(rw[hu]at h1;cases h1)|sl h1=>rw[hu]at h1;cases h1
theorem xh{f:Field}{fs:List Field}(h:s6 P B (f::fs) cells):∃a b,cells=a++b∧iW P B f.type a∧s6 P B fs b:=by cases h with|cons h1 h2=>exact⟨_,_,rfl,h1,h2⟩
theorem Qd(h:s6 P B [] cells):cells=[]:=by cases h;rfl
end
open Go Go.ChangeShapes Go.WideShapes Go.ChangeAt Go.RowKit
theorem Zj{P:Program}{W:World}{r:Reach}{base:Nat}{t:TypeId}{v:Value}{fs:Array Field}{cells:List U}(ht:P.underlying t=some (.struct fs))(hval:Value.okWide P W r base t v)(h:av W (·<W.heap.size) bL [] v.cells.toList cells):R W (·<W.heap.size) bL [] v (.agg cells):=by unfold Value.okWide at hval;rw[ht]at hval;obtain⟨cs,rfl,_⟩:=hval;exact h
end Go.Ab
