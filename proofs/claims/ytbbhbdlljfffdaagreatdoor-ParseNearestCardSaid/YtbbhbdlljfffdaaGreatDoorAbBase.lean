import Derived.Deep.Quiet
open List renaming replicate→GE
set_option linter.all false
namespace Go.Ab
open Go
theorem AC.{u}{c:Prop}{h:Decidable c}(hc:c){α:Sort u}{t e:α}:ite c t e=t:=if_pos hc
theorem Do.{u}{c:Prop}{h:Decidable c}(hc:¬c){α:Sort u}{t e:α}:ite c t e=e:=if_neg hc
abbrev Id:=List Nat
inductive U where|val(v:Value)|sl(rows:List (List U))|aL(cells:List U)|bQ|rs(id:Id)(off len:Nat)|mp(id:Id)(row off:Nat)|fn(f:Fn)(first caps:List U)|agg(cells:List U)|aE(vs:List U)|own(rows:List (List U))(len:Nat)|ck(cells:List U)|cF(g:Bool)(x:U)|nn|mr(id:Id)|dJ(rows:List (List U))|im(rows:List (List U))|aP(id:List Nat)(rows:List (List U))|uo(v:Value)|aU deriving Inhabited
abbrev Rows:=List (List U)
structure ah where
 n:Nat
 t:Nat→U
 h:Id→Option (Option Rows)
structure aT where
 cO:List (Nat×U)
 rd:List Id
 wr:List (Id×Option Rows)
def ai{α β:Type}[DecidableEq α](f:α→β)(k:α)(v:β):α→β:=fun j=>if j=k then v else f j
def cv(t:Nat→U):List (Nat×U)→Nat→U|[]=>t|(i,v)::l=>ai (cv t l) i v
def aQ(h:Id→Option (Option Rows)):List (Id×Option Rows)→Id→Option (Option Rows)|[]=>h|(i,r)::l=>ai (aQ h l) i (some r)
def ah.app(s:ah)(e:aT):ah:={n:=s.n,t:=cv s.t e.cO,h:=aQ s.h e.wr}
def dw:Value→Bool| .bool _| .int _ _| .float _ _| .string _| .pointer _| .nilFunc| .nilIface| .map none| .iface _ (.int _ _)| .iface _ (.string _)| .iface _ (.bool _)=>true|_=>false
def cu{α:Type}(P:Program):Sem α→Option α| .pure a=>some a| .program k=>cu P (k P)|_=>none
structure aB where
 P:Program
 bJ:Nat→Option (List U)
 ext:FuncId→Option (List U→Option (U×List U))
 bL:FuncId→List Nat
 ue:FuncId→List Nat:=fun _=>[]
 shr:FuncId→Nat→Bool:=fun _ _=>false
 dN:FuncId→List Nat
 live:FuncId→Nat→List Nat
 iV:FuncId→Nat→List (Nat×Nat)
 gY:FuncId→Nat→Option (Bool×List Nat):=fun _ _=>none
 lT:FuncId→Nat→Option (Bool×List Nat):=fun _ _=>none
 yR:FuncId→Nat→Option (Bool×List Nat):=fun _ _=>none
 path:FuncId→Option (Nat×Nat):=fun _=>none
 qI:FuncId→Nat→List Nat:=fun _ _=>[]
 iter:FuncId→Option (List U→Option (List (List U))):=fun _=>none
 look:FuncId→Bool:=fun _=>false
 iK:FuncId→Nat→List Nat:=fun _ _=>[]
 fP:FuncId→Bool:=fun _=>false
 gO:FuncId→Nat→List Nat:=fun _ _=>[]
 jC:FuncId→Nat→List Nat:=fun _ _=>[]
 nF:FuncId→List Id:=fun _=>[]
 yT:FuncId→Nat→Bool:=fun _ _=>false
 kH:FuncId→Bool:=fun _=>false
 abV:FuncId→Nat→Bool:=fun _ _=>false
def ah.get(C:aB)(s:ah):Operand→U| .tmp t=>s.t t| .const v=>if dw v then .val v else(match v with| .slice none 0 0=> .bQ|_=> .aU)| .global g=>(match C.bJ g with|some cs=> .aL cs|none=> .aU)| .func f=> .fn (.func f) [] []
def un(g:Bool):U→U| .cF g' x=>if !g||g' then x else .aU|x=>x
def gk:List U→Option (List Value)|[]=>some []| .val v::l=>(gk l).map (v::·)|_::_=>none
def lD:U→Option Value| .val v=>some v| .agg cs=>(gk cs).map fun vs=> .agg ⟨vs⟩|_=>none
def Dx(v:Value):Option U:=if dw v then some (.val v)else match v with| .slice none 0 0=>some .bQ|_=>none
def um:List Value→Option (List U)|[]=>some []|v::l=>match Dx v with|some a=>(um l).map (a::·)|none=>none
def sF(C:aB)(t:TypeId):Option (List U):=match(C.P.info? t).bind (·.zero)with|some v=>um v.cells.toList|none=>none
def Dw(v:Value):Option U:=if dw v then some (.val v)else match v with| .slice none 0 0=>some (.own [] 0)|_=>none
def si:List Value→Option (List U)|[]=>some []|v::l=>match Dw v with|some a=>(si l).map (a::·)|none=>none
def sG(C:aB)(t:TypeId):Option (List U):=match(C.P.info? t).bind (·.zero)with|some v=>si v.cells.toList|none=>none
def fE(C:aB)(t:TypeId):Option Nat:=(C.P.info? t).map (·.size)
def iM(C:aB)(t:TypeId):Option Bool:=(C.P.underlying t).map fun| .struct _=>true| .array _ _=>true|_=>false
def nz:U→U| .bQ=> .sl []|x=>x
def iN(l:List U):List U:=l.map nz
def U.cell:U→Bool| .val _| .sl _| .aL _| .bQ| .rs _ _ _| .mp _ _ _| .fn _ _ _| .nn| .mr _| .im _=>true|_=>false
def lS(zE:Bool):U→Option (List U)| .agg cs=>if zE&&cs.all U.cell then some cs else none|x=>if !zE&&x.cell then some [x]else none
def gx(zE:Bool)(cs:List U):Option U:=if zE then some (.agg cs)else match cs with|[c]=>some c|_=>none
def bw(p:Id):Nat→List U→List U×List (Id×Option Rows)|_,[]=>([],[])|j,c::cs=>match c with| .own rows len=>(.rs (j::p) 0 len::(bw p (j+1) cs).1,(j::p,some rows)::(bw p (j+1) cs).2)| .ck cells=>(.mp (j::p) 0 0::(bw p (j+1) cs).1,(j::p,some [cells])::(bw p (j+1) cs).2)| .dJ rows=>(.mr (j::p)::(bw p (j+1) cs).1,(j::p,some rows)::(bw p (j+1) cs).2)| .agg _=>(.aU::(bw p (j+1) cs).1,(bw p (j+1) cs).2)| .aE _=>(.aU::(bw p (j+1) cs).1,(bw p (j+1) cs).2)|c=>(c::(bw p (j+1) cs).1,(bw p (j+1) cs).2)
def dX(p:Id):Nat→List U→List U×List (Id×Option Rows)|_,[]=>([],[])|j,c::cs=>match c with| .own rows len=>(.rs (j::p) 0 len::(dX p (j+1) cs).1,(j::p,some rows)::(dX p (j+1) cs).2)| .ck cells=>(.mp (j::p) 0 0::(dX p (j+1) cs).1,(j::p,some [cells])::(dX p (j+1) cs).2)| .dJ rows=>(.mr (j::p)::(dX p (j+1) cs).1,(j::p,some rows)::(dX p (j+1) cs).2)| .agg l=>(.agg (bw (j::p) 0 l).1::(dX p (j+1) cs).1,(bw (j::p) 0 l).2++(dX p (j+1) cs).2)| .aE _=>(.aU::(dX p (j+1) cs).1,(dX p (j+1) cs).2)|c=>(c::(dX p (j+1) cs).1,(dX p (j+1) cs).2)
def imp(p:Id):U→U×List (Id×Option Rows)| .own rows len=>(.rs p 0 len,[(p,some rows)])| .ck cells=>(.mp p 0 0,(p,some [(bw p 0 cells).1])::(bw p 0 cells).2)| .dJ rows=>(.mr p,[(p,some rows)])| .agg l=>(.agg (bw p 0 l).1,(bw p 0 l).2)| .aE l=>(.aE (dX p 0 l).1,(dX p 0 l).2)|x=>(x,[])
mutual def flat:U→Bool| .rs _ _ _| .mp _ _ _| .cF _ _| .bQ| .mr _=>false| .own rows _=>dz rows| .ck cells=>cp cells| .agg cells=>cp cells| .aE vs=>cp vs| .fn _ first caps=>cp first&&cp caps|_=>true def cp:List U→Bool|[]=>true|c::cs=>flat c&&cp cs def dz:List (List U)→Bool|[]=>true|r::rs=>cp r&&dz rs end
mutual def eC:U→Bool| .rs _ _ _| .mp _ _ _| .cF _ _| .bQ| .own _ _| .ck _| .mr _| .dJ _| .aU=>false| .agg cells=>dG cells| .aE vs=>dG vs| .fn _ first caps=>dG first&&dG caps|_=>true def dG:List U→Bool|[]=>true|c::cs=>eC c&&dG cs end
def iw(rows:Rows):Bool:=rows.all dG
def dF(p:U→Option (U×List Id)):List U→Option (List U×List Id)|[]=>some ([],[])|c::cs=>(p c).bind fun x=>(dF p cs).map fun y=>(x.1::y.1,x.2++y.2)
def ef(p:List U→Option (List U×List Id)):Rows→Option (Rows×List Id)|[]=>some ([],[])|r::rs=>(p r).bind fun x=>(ef p rs).map fun y=>(x.1::y.1,x.2++y.2)
def gj(p:U→Option (U×List Id))(cs:List U):Option (List U×List Id):=if cp cs then some (cs,[])else dF p cs
def mo(p:U→Option (U×List Id))(rs:Rows):Option (Rows×List Id):=if dz rs then some (rs,[])else ef (gj p) rs
def pk(L:Id→Option (Option Rows)):Nat→U→Option (U×List Id)|0,_=>none|n+1,a=>match a with| .rs id off len=>(match L id with|some (some rs)=>if off=0∧len≤rs.length then(mo (pk L n) rs).map fun x=>(.own x.1 len,id::x.2)else none|_=>none)| .mp id row off=>(match L id with|some (some [cs])=>if row=0∧off=0 then(gj (pk L n) cs).map fun x=>(.ck x.1,id::x.2)else none|_=>none)| .mr id=>(match L id with|some (some rs)=>some (.dJ rs,[id])|_=>none)| .bQ=>some (.own [] 0,[])| .agg cs=>(gj (pk L n) cs).map fun x=>(.agg x.1,x.2)| .aE cs=>(gj (pk L n) cs).map fun x=>(.aE x.1,x.2)| .fn f a b=>if dG a&&dG b then some (.fn f a b,[])else none| .cF _ _=>some (.aU,[])| .own rs len=>if dz rs then some (.own rs len,[])else none| .ck cs=>if cp cs then some (.ck cs,[])else none|a=>some (a,[])
def ig(p:U→Option (U×List Id))(cs:List U):Option (List U×List Id):=if dG cs then some (cs,[])else dF p cs
def lQ(p:U→Option (U×List Id))(rs:Rows):Option (Rows×List Id):=if iw rs then some (rs,[])else ef (ig p) rs
def bV(L:Id→Option (Option Rows)):Nat→U→Option (U×List Id)|0,_=>none|n+1,a=>match a with| .rs id off len=>(match L id with|some (some rs)=>if off+len≤rs.length then(lQ (bV L n) ((rs.drop off).take len)).map fun x=>(.sl x.1,id::x.2)else none|_=>none)| .mp id row off=>(match L id with|some (some rs)=>(match rs[row]? with|some r=>if off≤r.length then(ig (bV L n) (r.drop off)).map fun x=>(.aL x.1,id::x.2)else none|none=>none)|_=>none)| .mr id=>(match L id with|some (some rs)=>some (.im rs,[id])|_=>none)| .dJ rs=>some (.im rs,[])| .own rs len=>(lQ (bV L n) (rs.take len)).map fun x=>(.sl x.1,x.2)| .ck cs=>(ig (bV L n) cs).map fun x=>(.aL x.1,x.2)| .bQ=>some (.sl [],[])| .agg cs=>(ig (bV L n) cs).map fun x=>(.agg x.1,x.2)| .aE cs=>(ig (bV L n) cs).map fun x=>(.aE x.1,x.2)| .fn f a b=>(ig (bV L n) a).bind fun x=>(ig (bV L n) b).map fun y=>(.fn f x.1 y.1,x.2++y.2)| .cF _ _=>some (.aU,[])|a=>some (a,[])
def nB(L:Id→Option (Option Rows))(as:List U):Option (List U×List Id):=dF (bV L 9) as
/-! ## One operation -/
def put(o:Oper)(v:U)(rd:List Id)(wr:List (Id×Option Rows)):aT:={cO:=match o.dst with|some d=>[(d,v)]|none=>[],rd,wr}
def fresh(L:Id→Option (Option Rows))(l:List (Id×Option Rows)):Bool:=l.all fun x=>(L x.1).isNone
def xJ(C:aB):List Field→Option (List (Nat×Nat×Bool))|[]=>some []|f::l=>match fE C f.type,iM C f.type,xJ C l with|some n,some b,some r=>some ((f.offset,n,b)::r)|_,_,_=>none
def D7(C:aB)(t:TypeId):Option (List (Nat×Nat×Bool)):=match C.P.underlying t with|some (.struct fields)=>xJ C fields.toList|_=>none
def rf(place:List (Nat×Nat×Bool))(cells:List U):List (Nat×U)→Option (List U)|[]=>some cells|(i,v)::rest=>match place[i]? with|none=>none|some (off,n,b)=>match lS b v with|none=>none|some cs=>if cs.length=n∧off+n≤cells.length then rf place (cells.take off++cs++cells.drop (off+n)) rest else none
def oB(n:Nat)(b:Bool)(rows:Rows):List (Nat×U)→Option Rows|[]=>some rows|(i,v)::rest=>match lS b v with|none=>none|some cs=>if cs.length=n∧i<rows.length then oB n b (rows.set i cs) rest else none
def dA:U→Option Int| .val (.int _ n)=>some n|_=>none
def pX(n:Int):U:= .val (.int .i64 n)
def me:Nat:=4294967296
def rowsOf(L:Id→Option (Option Rows)):U→Option (Rows×List Id)| .sl rows=>some (rows,[])| .bQ=>some ([],[])| .rs id off len=>(match L id with|some (some rs)=>if off+len≤rs.length then some ((rs.drop off).take len,[id])else none|_=>none)|_=>none
def nZ(rows:Rows):Bool:=rows.all (·.all U.cell)
def pN(a b:List Id):Bool:=a.all fun x=> !b.contains x
def de:List Id→Bool|[]=>true|x::l=> !l.contains x&&de l
mutual def mine:U→Bool| .val _| .aU| .bQ| .nn| .dJ _=>true| .own rows _=>zK rows| .ck cells=>jI cells| .agg cells=>jI cells| .aE vs=>jI vs|_=>false def jI:List U→Bool|[]=>true|c::cs=>mine c&&jI cs def zK:List (List U)→Bool|[]=>true|r::rs=>jI r&&zK rs end
mutual def cS:U→U| .own rows len=> .sl ((gZ rows).take len)| .ck cells=> .aL (gI cells)| .dJ rows=> .im rows| .agg cells=> .agg (gI cells)| .aE vs=> .aE (gI vs)|x=>x def gI:List U→List U|[]=>[]|c::cs=>cS c::gI cs def gZ:List (List U)→List (List U)|[]=>[]|r::rs=>gI r::gZ rs end
def dS(C:aB)(f:FuncId)(d:Option Nat):Bool:=match d with|some d=>(C.dN f).contains d|none=>false
def xm:List U→Bool|[.val _]=>true|[.aL _]=>true|_=>false
def r8(S:ah)(o:Oper)(as:List U):Option aT:=match as with|[.val (.int .i64 i), .mp id 0 0, .aL cells]=>(match cells[4]?,S.h id with|some (U.sl ks),some (some [[.rs gv 0 n]])=>(match S.h gv,ks[i.toNat]? with|some (some rows),some [.val (.int .i64 c)]=>(match rows[c.toNat]? with|some [x]=>if 0≤i∧0≤c∧n=rows.length∧rows.all xm=true∧eC x=true∧o.dst.isSome=true then some (put o x [id,gv] [])else none|_=>none)|_,_=>none)|_,_=>none)|_=>none
def nC(C:aB)(f:FuncId)(call:FuncId→List U→Option (U×List U))(S:ah)(o:Oper)(fv:U)(args:List U):Option aT:=match fv with| .fn (.func k) first caps=>if C.look k then r8 S o (first++args++caps)else(match nB S.h (first++args++caps),o.dst with|some (as,seen),some d=>(match call k as with|some (r,[])=>if !seen.isEmpty&& !mine r then none else if fresh S.h (imp [d] (if dS C f o.dst then cS r else r)).2 then some (put o (imp [d] (if dS C f o.dst then cS r else r)).1 seen (imp [d] (if dS C f o.dst then cS r else r)).2)else none|_=>none)|_,_=>none)|_=>none
def uL(C:aB):Operand→Bool| .func k=> !(C.ue k).isEmpty|_=>false
def hO(L:Id→Option (Option Rows)):List Nat→List U→Option (List U×List Id×List Id×List Id)|_,[]=>some ([],[],[],[])|ms,a::l=>(hO L ms.tail l).bind fun y=>match ms.headD 0 with|1=>(pk L 9 a).map fun x=>(x.1::y.1,y.2.1,x.2++y.2.2.1,y.2.2.2)|2=>(pk L 9 a).map fun x=>(cS x.1::y.1,y.2.1,y.2.2.1,x.2++y.2.2.2)|_=>(bV L 9 a).map fun x=>(x.1::y.1,x.2++y.2.1,y.2.2.1,y.2.2.2)
def iC(L:Id→Option (Option Rows)):U→U→Option (List (Id×Option Rows))| .mp id 0 0, .ck cs=>(match L id with|some (some [old])=>if cs.length=old.length then some [(id,some [cs])]else none|_=>none)| .rs id 0 n, .own rows len=>(match L id with|some (some (o1::os))=>if len=n∧rows.length=n∧n=(o1::os).length∧rows.all (·.length==o1.length)then some [(id,some rows)]else none|some (some [])=>if len=0∧rows.length=0∧n=0 then some [(id,some [])]else none|_=>none)| .mr id, .dJ rows=>(match L id with|some (some _)=>some [(id,some rows)]|_=>none)| .rs _ _ _,_=>none| .mp _ _ _,_=>none| .mr _,_=>none| .agg _,_=>none|_,_=>some []
def gR(L:Id→Option (Option Rows)):List U→List U→Option (List (Id×Option Rows))|[],[]=>some []|a::as,b::bs=>(match iC L a b,gR L as bs with|some x,some y=>some (x++y)|_,_=>none)|_,_=>none
def oW(L:Id→Option (Option Rows)):U→U→Option (List (Id×Option Rows))| .agg as, .agg bs=>gR L as bs|a,b=>iC L a b
def fM(L:Id→Option (Option Rows))(args:List U):List Nat→List U→Option (List (Id×Option Rows))|[],[]=>some []|j::l,b::bs=>(match args[j]?,fM L args l bs with|some a,some y=>(match oW L a b with|some x=>some (x++y)|none=>none)|_,_=>none)|_,_=>none
def nD(C:aB)(f:FuncId)(call:FuncId→List U→Option (U×List U))(S:ah)(o:Oper)(k:FuncId)(args:List U):Option aT:=match hO S.h (C.ue k) args,o.dst with|some (as,seen,tk,cT),some d=>(match call k as with|some (r,outs)=>(match fM S.h args (C.bL k) outs with|some back=>if de (tk++cT)&&pN seen (tk++cT)&&(seen.isEmpty||mine r&&outs.all mine)&&de (back.map (·.1))&&(back.all fun x=>tk.contains x.1)&&fresh S.h (imp [d] (if dS C f o.dst then cS r else r)).2 then some (put o (imp [d] (if dS C f o.dst then cS r else r)).1 seen ((imp [d] (if dS C f o.dst then cS r else r)).2++(back++(tk++cT).map fun i=>(i,none))))else none|none=>none)|none=>none)|_,_=>none
def x6(i:TypeInfo):Bool:=match i.zero with|some z=>z.cells.size==i.size|none=>false
def kr(S:ah)(o:Oper)(d m:Nat)(x:U)(xs ys:Rows)(i1 i2:List Id):Option aT:=match x with| .rs id off _=>(match S.h id with|some (some rows)=>if rows.all (·.length==m)&&decide (off=0)&&(!(xs++ys).isEmpty||rows.isEmpty)then some (put o (.rs [d] 0 (xs.length+ys.length)) (i1++i2) [(id,none),([d],some (xs++ys))])else none|_=>none)| .bQ=>some (put o (.rs [d] 0 (xs.length+ys.length)) (i1++i2) [([d],some (xs++ys))])|_=>none
def sX(C:aB)(S:ah)(o:Oper)(t:TypeId)(x y:U):Option aT:=match C.P.underlying t,o.dst with|some (.slice e),some d=>(match C.P.info? e,rowsOf S.h x,rowsOf S.h y with|some i,some (xs,i1),some (ys,i2)=>if ys.all (·.length==i.size)&&decide (0<i.size)&&decide (i.bytes≤4096)&&x6 i&&decide (xs.length+ys.length≤me)&&nZ ys&&(S.h [d]).isNone then kr S o d i.size x xs ys i1 i2 else none|_,_,_=>none)|_,_=>none
def sY(C:aB)(S:ah)(o:Oper)(t:TypeId)(x y:U):Option aT:=match C.P.underlying t,o.dst,dA y with|some (.slice e),some d,some n=>(match C.P.info? e,sG C e,rowsOf S.h x with|some i,some z,some (xs,i1)=>if decide (0≤n∧n≤4294967296)&&decide (z.length=i.size)&&decide (0<i.size)&&decide (i.bytes≤4096)&&x6 i&&decide (xs.length+n.toNat≤me)&&z.all U.cell&&(S.h [d]).isNone then kr S o d i.size x xs (GE n.toNat z) i1 []else none|_,_,_=>none)|_,_,_=>none
def w5:U→Option Nat| .sl rows=>some rows.length| .rs _ _ len=>some len| .bQ=>some 0|_=>none
def w4:TypeDesc→U→Option Nat| .string, .val (.string s)=>some s.size| .slice _,x=>w5 x|_,_=>none
def ret(o:Oper)(v:U):Option aT:=some (put o v [] [])
def jn(o:Oper):Option Value→Option aT|some v=>if dw v then ret o (.val v)else none|none=>none
def pV(o:Oper)(c a b:U):Option aT:=match c with| .val (.bool h)=>(match a,b with| .val (.bool x), .val (.bool y)=>ret o (.val (.bool (if h then x else y)))|dV,fO=>ret o (if h then dV else fO))|_=>none
def Fz(l:List Nat):Nat→List U→List U|_,[]=>[]|j,c::cs=>(match c with| .own [] 0=>if l.contains j then .sl []else c| .bQ=>if l.contains j then .sl []else c|c=>c)::Fz l (j+1) cs
def qJ(l:List Nat)(cs:List U):List U:=match l with|[]=>cs|l=>Fz l 0 cs
def x7(C:aB)(f:FuncId)(o:Oper)(cs:List U):List U:=match o.dst with|some d=>qJ (C.qI f d) cs|none=>cs
def jS:U→Bool| .val (.bool h)=>h|_=>false
def ou(C:aB)(f:FuncId)(S:ah)(o:Oper)(t:TypeId):Option aT:=match sG C t,o.dst with|some cs,some d=>if(S.h [d]).isNone then some (put o (.mp [d] 0 0) [] [([d],some [qJ (C.qI f d) cs])])else none|_,_=>none
def mJ(C:aB)(f:FuncId)(S:ah)(o:Oper)(t:TypeId)(x:U):Option aT:=match iM C t,o.dst with|some b,some d=>(match lS b x with|some cs=>if dS C f o.dst&&dG (iN cs)then ret o (.aL (iN cs))else if(S.h [d]).isNone then some (put o (.mp [d] 0 0) [] [([d],some [cs])])else none|none=>none)|_,_=>none
def pP(C:aB)(f:FuncId)(o:Oper)(t:TypeId)(parts:List (Nat×U)):Option aT:=match sF C t,D7 C t with|some z,some pl=>(match rf pl (x7 C f o z) parts with|some cs=>ret o (.agg cs)|none=>none)|_,_=>none
def ow(C:aB)(f:FuncId)(S:ah)(o:Oper)(t:TypeId)(len:Nat)(parts:List (Nat×U)):Option aT:=match C.P.underlying t,o.dst with|some (.slice e),some d=>(match sF C e,iM C e,fE C e with|some z,some b,some n=>if decide (0<n)&&decide (n=z.length)&&decide (len*n≤1000)then match oB n b (GE len z) parts with|some rows=>if dS C f o.dst&&iw (rows.map iN)then ret o (.sl (rows.map iN))else if(S.h [d]).isNone then some (put o (.rs [d] 0 len) [] [([d],some rows)])else none|none=>none else none|_,_,_=>none)|_,_=>none
def sZ(C:aB)(t:TypeId)(len:Nat)(parts:List (Nat×U)):Option Rows:=match C.P.underlying t with|some (.slice e)=>(match sF C e,iM C e,fE C e with|some z,some b,some n=>if decide (0<n)&&decide (n=z.length)&&decide (len*n≤1000)then oB n b (GE len z) parts else none|_,_,_=>none)|_=>none
def Bd(C:aB)(f:FuncId)(o:Oper)(t:TypeId)(len:Nat)(parts:List (Nat×U)):Bool:=dS C f o.dst&&(match sZ C t len parts with|some rows=> !iw (rows.map iN)|none=>false)
def vp(C:aB)(S:ah)(o:Oper)(t:TypeId)(len:Nat)(parts:List (Nat×U)):Option aT:=match sZ C t len parts,o.dst with|some rows,some _=>(match mo (pk S.h 8) rows with|some (aV,ids)=>if de ids then some (put o (.sl (gZ aV)) ids (ids.map fun i=>(i,none)))else none|none=>none)|_,_=>none
def mK(C:aB)(f:FuncId)(S:ah)(o:Oper)(t:TypeId)(len:Nat)(parts:List (Nat×U)):Option aT:=if Bd C f o t len parts then vp C S o t len parts else ow C f S o t len parts
def gd(o:Oper):Id:=match o.dst with|some d=>[d]|none=>[1000000]
def iY(C:aB)(S:ah)(o:Oper)(t:TypeId)(a:U):Option aT:=match iM C t,fE C t with|some b,some n=>(match a with| .aL cells=>if n≤cells.length then(gx b (cells.take n)).map fun v=>put o v [] []else none| .mp id row off=>(match S.h id with|some (some rows)=>(rows[row]?).bind fun r=>if off+n≤r.length then if(bw (gd o) 0 ((r.drop off).take n)).2.isEmpty then(gx b (bw (gd o) 0 ((r.drop off).take n)).1).map fun v=>put o v [id] []else if fresh S.h (bw (gd o) 0 ((r.drop off).take n)).2 then(gx b (bw (gd o) 0 ((r.drop off).take n)).1).map fun v=>put o v [id] ((id,some (rows.set row (r.take off++(bw (gd o) 0 ((r.drop off).take n)).1++r.drop (off+n))))::(bw (gd o) 0 ((r.drop off).take n)).2)else none else none|_=>none)|_=>none)|_,_=>none
def rj(C:aB)(f:FuncId)(a:Operand):Option Nat:=match a with| .tmp ta=>if(C.dN f).contains ta then some ta else none|_=>none
def k4(C:aB)(f:FuncId)(S:ah)(g:Bool)(o:Oper)(t:TypeId)(ao:Operand)(a x:U):Option aT:=match iM C t,fE C t with|some b,some n=>(match a,lS b x with| .mp id row off,some cs=>if cs.length≠n then none else(match S.h id with|some (some rows)=>(rows[row]?).bind fun r=>if off+n≤r.length then match rj C f ao with|some ta=>if decide (off=0)&&decide (n=r.length)&&decide (rows.length=1)&&decide (row=0)&&dG (iN cs)&&g&&o.dst.isNone then some {cO:=[(ta, .aL (iN cs))],rd:=[id],wr:=[(id,none)]}else none|none=>if o.dst.isNone then some (put o .aU [id] [(id,some (rows.set row (r.take off++cs++r.drop (off+n))))])else none else none|_=>none)|_,_=>none)|_,_=>none
def vt(o:Oper):U→Option aT| .aL cs=>ret o (.aL cs)| .mp id row off=>ret o (.mp id row off)| .fn (.func k) a b=>ret o (.fn (.func k) a b)|_=>none
def dM(P:Program)(op:BinOp)(t:TypeId)(x y:Operand)(a b:Value):Option Value:=cu P (do eqGuard op t x y a b;binOp op t a b)
def x4(P:Program)(op:UnOp)(a:Value):Option Value:=cu P (Op.unary op a)
def yP(P:Program)(src dst:TypeId)(a:Value):Option Value:=cu P (convert src dst a)
def zI(P:Program)(ts:Array TypeId)(t:TypeId)(vs:List Value):Option Value:=cu P (Builtin.max_ ts t ⟨vs⟩)
def zJ(P:Program)(ts:Array TypeId)(t:TypeId)(vs:List Value):Option Value:=cu P (Builtin.min_ ts t ⟨vs⟩)
def Dl(op:BinOp)(a b:U):Option Bool:=match op,a,b with| .eql, .nn, .val .nilIface=>some false| .eql, .val .nilIface, .nn=>some false| .neq, .nn, .val .nilIface=>some true| .neq, .val .nilIface, .nn=>some true|_,_,_=>none
def Ke(op:BinOp)(a b:U):Option Bool:=match op,a,b with| .eql, .aL _, .val (.pointer none)=>some false| .neq, .aL _, .val (.pointer none)=>some true|_,_,_=>none
def ov(C:aB)(o:Oper)(op:BinOp)(t:TypeId)(x y:Operand)(a b:U):Option aT:=match lD a,lD b with|some a,some b=>jn o (dM C.P op t x y a b)|_,_=>match C.P.underlying t,Dl op a b with|some (.interface _),some r=>ret o (.val (.bool r))|some (.pointer _),_=>(match Ke op a b with|some r=>ret o (.val (.bool r))|none=>none)|_,_=>none
def pS(C:aB)(o:Oper)(t:TypeId)(x:U):Option aT:=match C.P.underlying t with|some (.interface _)=>none|some _=>(match x with| .val v=>if dw (.iface t v)then ret o (.val (.iface t v))else ret o .nn|_=>ret o .nn)|none=>none
def q9(C:aB)(o:Oper)(op:UnOp):U→Option aT| .val a=>jn o (x4 C.P op a)|_=>none
def vq(C:aB)(o:Oper)(src dst:TypeId):U→Option aT| .val a=>jn o (yP C.P src dst a)|_=>none
def pL(C:aB)(src dst:TypeId):Bool:=match C.P.underlying src,C.P.underlying dst with|some _,some (.slice e)=>(match C.P.underlying e with|some (.int .u8)=>true|_=>false)|_,_=>false
def vf(s:ByteArray):Rows:=s.data.toList.map fun b=>[.val (.int .u8 b.toNat)]
def yW(o:Oper):U→Option aT| .val (.string s)=>ret o (.sl (vf s))|_=>none
def ox(C:aB)(o:Oper)(src dst:TypeId)(x:U):Option aT:=if pL C src dst then yW o x else vq C o src dst x
def oy(C:aB)(S:ah)(o:Oper)(t:TypeId)(l c:U):Option aT:=match C.P.underlying t,o.dst,dA l,dA c with|some (.slice e),some d,some l,some c=>(match sG C e,C.P.info? e with|some z,some i=>if decide (0<z.length)&&decide (i.size=z.length)&&decide (i.bytes≤4096)&&decide (0≤l∧l≤c∧c≤4294967296∧(0<l∨c=0))&&(S.h [d]).isNone then some (put o (.rs [d] 0 l.toNat) [] [([d],some (GE l.toNat z))])else none|_,_=>none)|_,_,_,_=>none
def bounds(lo hi:Option (Option Int))(len:Nat):Option (Nat×Nat):=match(match lo with|none=>some 0|some l=>l),(match hi with|none=>some (len:Int)|some h=>h)with|some l,some h=>if 0≤l∧l≤h∧h≤len then some (l.toNat,h.toNat)else none|_,_=>none
def mL(C:aB)(S:ah)(o:Oper)(t:TypeId)(x:U)(lo hi:Option (Option Int)):Option aT:=match C.P.underlying t with|some (.slice e)=>(match x,fE C e with| .sl rows,some sz=>(bounds lo hi rows.length).bind fun b=>if 0<sz∧rows.all (·.length==sz)then ret o (.sl ((rows.take b.2).drop b.1))else none| .rs id off len,some sz=>(match S.h id with|some (some rows)=>(bounds lo hi len).bind fun b=>if off+len≤rows.length∧0<sz∧rows.all (·.length==sz)then some (put o (.rs id (off+b.1) (b.2-b.1)) [id] [])else none|_=>none)|_,_=>none)|some .string=>(match x with| .val (.string s)=>(bounds lo hi s.size).bind fun b=>ret o (.val (.string (s.extract b.1 b.2)))|_=>none)|_=>none
def vu(C:aB)(s:TypeId)(i:Nat):Option (Nat×Nat×Bool):=match C.P.underlying s with|some (.struct fields)=>(match fields[i]? with|some fl=>(match fE C fl.type,iM C fl.type with|some n,some b=>some (fl.offset,n,b)|_,_=>none)|none=>none)|_=>none
def pQ(C:aB)(f:FuncId)(o:Oper)(s:TypeId)(i:Nat)(x:U):Option aT:=match vu C s i with|some (off,n,_)=>(match x with| .aL cells=>if 0<n∧off≤cells.length then(if dS C f o.dst then(if off+n≤cells.length then ret o (.aL ((cells.drop off).take n))else none)else ret o (.aL (cells.drop off)))else none| .mp id row off'=>if 0<n then ret o (.mp id row (off'+off))else none|_=>none)|none=>none
def tf(C:aB)(o:Oper)(s:TypeId)(i:Nat)(x:U):Option aT:=match vu C s i with|some (off,n,b)=>(match x with| .agg cells=>if off+n≤cells.length then(gx b ((cells.drop off).take n)).map fun v=>put o v [] []else none|_=>none)|none=>none
def k3(C:aB)(S:ah)(o:Oper)(t:TypeId)(x:U)(i:Option Int):Option aT:=match C.P.underlying t,i with|some (.slice e),some i=>(match fE C e,x with|some n, .sl rows=>if 0≤i then(rows[i.toNat]?).bind fun r=>if r.length=n∧0<n then ret o (.aL r)else none else none|some n, .rs id off len=>if 0≤i∧i<len then match S.h id with|some (some rows)=>(rows[off+i.toNat]?).bind fun r=>if r.length=n then some (put o (.mp id (off+i.toNat) 0) [id] [])else none|_=>none else none|_,_=>none)|some (.array len e),some i=>(match fE C e,x with|some n, .aL cells=>if 0≤i∧i<len∧i.toNat*n≤cells.length then ret o (.aL (cells.drop (i.toNat*n)))else none|some n, .mp id row off=>if 0≤i∧i<len then ret o (.mp id row (off+i.toNat*n))else none|_,_=>none)|_,_=>none
def pT(C:aB)(o:Oper)(t:TypeId)(x:U)(i:Option Int):Option aT:=match C.P.underlying t,i,x with|some .string,some i, .val (.string s)=>if 0≤i then(s[i.toNat]?).bind fun b=>ret o (.val (.int .u8 b.toNat))else none|some (.array len e),some i, .agg cells=>(match fE C e,iM C e with|some n,some b=>if 0≤i∧i<len∧(i.toNat+1)*n≤cells.length then(gx b ((cells.drop (i.toNat*n)).take n)).map fun v=>put o v [] []else none|_,_=>none)|_,_,_=>none
def td(o:Oper)(x:U)(i:Nat):Option aT:=match x with| .aE vs=>(match vs[i]? with|some v=>ret o v|none=>none)|_=>none
def nH(C:aB)(o:Oper)(ts:Array TypeId)(xs:List U):Option aT:=match xs with|[x]=>(match(ts[0]?).bind C.P.underlying with|some d=>(match w4 d x with|some n=>ret o (pX n)|none=>none)|none=>none)|_=>none
def mM(C:aB)(f:FuncId)(o:Oper)(e:aT):Option aT:=if dS C f o.dst then match o.dst,e.wr with|some d,[(id,none),(d',some rows)]=>if d'=[d]∧iw rows=true then some (put o (.sl rows) e.rd [(id,none),([d],none)])else none|some d,[(d',some rows)]=>if d'=[d]∧iw rows=true then some (put o (.sl rows) e.rd [([d],none)])else none|_,_=>none else some e
def jA(C:aB)(S:ah)(o:Oper)(ts:Array TypeId)(xs:List U):Option aT:=match xs,ts[0]?,(ts[1]?).bind C.P.underlying with|[x,y],some t,some (.slice _)=>sX C S o t x y|[x,y],some t,some (.int _)=>sY C S o t x y|_,_,_=>none
def pathOf(C:aB):Operand→Option (Nat×Nat)| .func k=>C.path k|_=>none
def pU(S:ah)(o:Oper)(p:Nat×Nat):List U→Option aT|[.mp id row off]=>(match S.h id with|some (some rows)=>(match(rows[row]?).bind fun r=>r[off+p.1]? with|some (.rs gv off2 len)=>(match S.h gv with|some (some dY)=>if decide (0<len)&&decide (len≤me)&&decide (off2+len≤dY.length)&&dY.all (·.length==p.2)then some (put o (.mp gv (off2+(len-1)) 0) [id,gv] [])else none|_=>none)|_=>none)|_=>none)|[.aL cells]=>(match cells[p.1]? with|some (.sl rows)=>if decide (rows.length≤me)&&rows.all (·.length==p.2)then(rows[rows.length-1]?).map fun r=>put o (.aL r) [] []else none|_=>none)|_=>none
def z1:List U→Bool|[.val _]=>true|_=>false
def q6(C:aB)(S:ah)(o:Oper)(ts:Array TypeId)(xs:List U):Option aT:=match xs,(ts[0]?).bind C.P.underlying with|[x,y],some (.slice e)=>(match fE C e,x,rowsOf S.h y with|some 1, .rs id off len,some (ys,i2)=>(match S.h id with|some (some rows)=>if ys.all z1&&rows.all (·.length==1)&&decide (off+len≤rows.length)then some (put o (pX ((min ys.length len:Nat):Int)) (id::i2) [(id,some (rows.take off++ys.take (min ys.length len)++rows.drop (off+min ys.length len)))])else none|_=>none)|_,_,_=>none)|_,_=>none
/-! Maps: keys and values of one cell without an address. -/
def EC:TypeDesc→Bool| .int _| .string| .bool=>true|_=>false
def w7(L:Id→Option (Option Rows)):U→Option (Rows×List Id)| .mr id=>(match L id with|some (some rows)=>some (rows,[id])|_=>none)| .im rows=>some (rows,[])| .val (.map none)=>some ([],[])|_=>none
def nI(kind:TypeDesc)(k:Value):Rows→Option (Option Value)|[]=>some none|[.val k', .val v]::rs=>(match Instr.sameNow kind k k' with|some true=>some (some v)|some false=>nI kind k rs|none=>none)|_=>none
def xL(kind:TypeDesc)(k v:Value):Rows→Option Rows|[]=>some [[.val k, .val v]]|[.val k', .val v']::rs=>(match Instr.sameNow kind k k' with|some true=>some ([.val k, .val v]::rs)|some false=>(xL kind k v rs).map fun y=>[.val k', .val v']::y|none=>none)|_=>none
def EA(C:aB)(t:TypeId):Option Value:=match(C.P.info? t).bind (·.zero)with|some v=>if dw v then some v else none|none=>none
def uc(C:aB)(t:TypeId):Option (TypeDesc×Value):=match C.P.underlying t with|some (.map kt et)=>(match C.P.underlying kt,EA C et with|some kind,some z=>if EC kind then some (kind,z)else none|_,_=>none)|_=>none
def q8(C:aB)(S:ah)(o:Oper)(t:TypeId)(r:Option Operand):Option aT:=match uc C t,o.dst with|some _,some d=>if r.isNone&&(S.h [d]).isNone then some (put o (.mr [d]) [] [([d],some [])])else none|_,_=>none
def q7(C:aB)(S:ah)(o:Oper)(t:TypeId)(x k:U)(ok:Bool):Option aT:=match uc C t,w7 S.h x,k with|some (kind,z),some (rows,ids), .val kv=>(nI kind kv rows).map fun r=>put o (if ok then .aE [.val (r.getD z), .val (.bool r.isSome)]else .val (r.getD z)) ids []|_,_,_=>none
def oz(C:aB)(S:ah)(o:Oper)(t:TypeId)(x k v:U):Option aT:=match uc C t,x,k,v with|some (kind,_), .mr id, .val kv, .val kP=>(match S.h id with|some (some rows)=>if dw kv&&dw kP&&o.dst.isNone then(xL kind kv kP rows).map fun aV=>put o .aU [id] [(id,some aV)]else none|_=>none)|_,_,_,_=>none
/-! Names that keep their place through a body: they end with a mark. -/
def fX:Nat:=999999
def gK:Id→Bool|[]=>false|[x]=>x==fX|_::y::l=>gK (y::l)
def nV(i q:Id):Id:=if gK i then i else if gK q then q++[0]else q
/-! What lives at a loop's head where names may be shared: the state itself, under names of its own. -/
def eP(l:List (Id×Id))(i:Id):Option Id:=match l with|[]=>none|(o,k)::l=>if o=i then some k else eP l i
def uB(l:List (Id×Id)):U→Option U| .rs i off len=>(eP l i).map fun k=> .rs k off len| .mp i row off=>(eP l i).map fun k=> .mp k row off| .mr i=>(eP l i).map fun k=> .mr k| .bQ=>some .bQ|a=>if flat a then some a else none
def uC(l:List (Id×Id)):List U→Option (List U)|[]=>some []|a::as=>match uB l a,uC l as with|some b,some bs=>some (b::bs)|_,_=>none
def qA(l:List (Id×Id)):U→Option U| .fn k as cs=>if cp as&&cp cs then some (.fn k as cs)else(match uC l as,uC l cs with|some x,some y=>some (.fn k x y)|_,_=>none)|a=>uB l a
def mu(l:List (Id×Id)):List U→Option (List U)|[]=>some []|a::as=>match qA l a,mu l as with|some b,some bs=>some (b::bs)|_,_=>none
def ek(l:List (Id×Id)):U→U| .agg cs=>(match mu l cs with|some bs=> .agg bs|none=> .aU)| .aE cs=>(match mu l cs with|some bs=> .aE bs|none=> .aU)| .fn f as cs=>(match mu l as,mu l cs with|some bs,some ds=> .fn f bs ds|_,_=> .aU)|a=>match qA l a with|some b=>b|none=> .aU
def uF(l:List (Id×Id)):Rows→Option Rows|[]=>some []|r::rs=>match mu l r,uF l rs with|some b,some bs=>some (b::bs)|_,_=>none
def jP(l:List (Id×Id))(rows:Rows):Option Rows:=if dz rows then some rows else uF l rows
def ey(L:Id→Option (Option Rows)):Nat→Id→Nat→List (Id×Id)→List U→List (Id×Id)|0,_,_,acc,_=>acc|_,_,_,acc,[]=>acc|n+1,p,j,acc,a::as=>ey L n p (j+1) (match a with| .rs i _ _=>if(eP acc i).isSome then acc else acc++[(i,nV i (j::p))]| .mr i=>if(eP acc i).isSome then acc else acc++[(i,nV i (j::p))]| .mp i _ _=>if(eP acc i).isSome then acc else(match L i with|some (some [cs])=>ey L n (j::p) 0 (acc++[(i,nV i (j::p))]) cs|_=>acc++[(i,nV i (j::p))])| .agg cs=>ey L n (j::p) 0 acc cs| .fn _ as cs=>if cp as&&cp cs then acc else ey L n (j::p) 0 acc (as++cs)|_=>acc) as
def l6(L:Id→Option (Option Rows))(l:List (Id×Id)):List (Id×Id)→Option (List (Id×Rows))|[]=>some []|(o,k)::r=>match L o,l6 L l r with|some (some rows),some y=>(jP l rows).map fun aV=>(k,aV)::y|_,_=>none
def kJ(l:List (Id×Id))(t:Nat→U):List Nat→Nat→U|[]=>fun _=> .aU|s::r=>ai (kJ l t r) s (ek l (t s))
def gL:List (Id×Rows)→Id→Option (Option Rows)|[]=>fun _=>none|(k,rows)::r=>ai (gL r) k (some (some rows))
def names(S:ah)(slots:List Nat):List (Id×Id):=slots.foldl (fun acc s=>ey S.h 40 [s] 0 acc [S.t s]) []
def I2(keep:Id→Bool):U→Bool| .rs i _ _=>keep i| .mp i _ _=>keep i| .mr i=>keep i|a=>flat a
def tY(keep:Id→Bool)(l:List U):Bool:=l.all (I2 keep)
def fz(L:Id→Option (Option Rows))(keep:Id→Bool):U→Option (U×List Id)| .rs i off len=>if keep i then some (.rs i off len,[])else pk L 8 (.rs i off len)| .mp i row off=>if keep i then some (.mp i row off,[])else pk L 8 (.mp i row off)| .mr i=>if keep i then some (.mr i,[])else pk L 8 (.mr i)| .bQ=>some (.own [] 0,[])| .fn k as cs=>if tY keep as&&tY keep cs then some (.fn k as cs,[])else none|a=>if flat a then some (a,[])else none
def iW(L:Id→Option (Option Rows))(keep:Id→Bool)(r:List U):Option (List U×List Id):=if cp r then some (r,[])else dF (fz L keep) r
def oO(l:List (Id×Id))(i:Id):Bool:=(eP l i).isSome
/-! Graph calls: arguments as they stand, and the objects that they lead to. -/
def kD(C:aB):U→Option (FuncId×List U×List U)| .fn (.func k) first caps=>if C.fP k then some (k,first,caps)else none|_=>none
def c5(L:Id→Option (Option Rows)):Nat→Bool→Id→Nat→List (Id×Id)→List U→List (Id×Id)|0,_,_,_,acc,_=>acc|_,_,_,_,acc,[]=>acc|n+1,b,p,j,acc,a::as=>c5 L n b p (j+1) (match a with| .rs i _ _=>if !b||(eP acc i).isSome then acc else acc++[(i,j::p)]| .mr i=>if !b||(eP acc i).isSome then acc else acc++[(i,j::p)]| .mp i _ _=>if(eP acc i).isSome then acc else(match L i with|some (some [cs])=>c5 L n false (j::p) 0 (acc++[(i,j::p)]) cs|_=>acc++[(i,j::p)])| .agg cs=>c5 L n b (j::p) 0 acc cs| .fn _ as cs=>c5 L n true (j::p) 0 acc (as++cs)|_=>acc) as
def kA(L:Id→Option (Option Rows))(keep:Id→Bool)(rows:Rows):Option (Rows×List Id):=if dz rows then some (rows,[])else ef (iW L keep) rows
def fY(L:Id→Option (Option Rows))(l:List (Id×Id)):List (Id×Id)→Option (List U×List Id)|[]=>some ([],[])|(o,k)::r=>match L o with|some (some rows)=>(kA L (oO l) rows).bind fun x=>(jP l x.1).bind fun aV=>(fY L l r).map fun y=>(.aP k aV::y.1,x.2++y.2)|_=>none
def gb(l':List (Id×Id)):List (Id×Id)→List U→Option (List (Id×Option Rows))|[],[]=>some []|(o,k)::r, .aP k' rows::outs=>if k'=k then(jP l' rows).bind fun aV=>(gb l' r outs).map fun y=>(o,some aV)::y else none|(o,_)::r, .aU::outs=>(gb l' r outs).map fun y=>(o,none)::y|_,_=>none
structure sJ where
 r:U
 l:List (Id×Id)
 back:List (Id×Option Rows)
 gone:List Id
def vI(call:FuncId→List U→Option (U×List U))(L:Id→Option (Option Rows))(k:FuncId)(args:List U)(l:List (Id×Id)):Option sJ:=match fY L l l with|some (obs,gone)=>if de (l.map (·.1))&&de (l.map (·.2))&&(l.all fun x=>gK x.2)&&de gone&&pN gone (l.map (·.1))then match call k (.aE obs::args.map (ek l))with|some (r,outs)=>(gb (l.map fun x=>(x.2,x.1)) l outs).map fun back=>⟨r,l,back,gone⟩|none=>none else none|none=>none
def nJ(call:FuncId→List U→Option (U×List U))(L:Id→Option (Option Rows))(k:FuncId)(args:List U):Option sJ:=vI call L k args (c5 L 60 true [fX] 0 [] args)
def n3(L:Id→Option (Option Rows))(b:Id×Option Rows):Bool:=match L b.1,b.2 with|some (some [[.mp i r f]]),some [[.mp i' r' f']]=>i==i'&&r==r'&&f==f'|_,_=>false
def gX(L:Id→Option (Option Rows))(back:List (Id×Option Rows)):List (Id×Option Rows):=back.filter fun b=> !n3 L b
def tV:U→Bool| .uo _=>true|_=>false
def mG(C:aB)(f:FuncId)(call:FuncId→List U→Option (U×List U))(S:ah)(o:Oper)(k:FuncId)(args:List U):Option aT:=
 (nJ call S.h k args).bind fun x=>
  if tV x.r then none else
  let y:=imp (gd o) (ek (x.l.map fun x=>(x.2,x.1)) (if dS C f o.dst then(if flat x.r then cS x.r else .aU)else x.r))
  if fresh S.h y.2 then some (put o y.1 (x.l.map (·.1)) (y.2++(gX S.h x.back++x.gone.map fun i=>(i,none))))else none
def bn(C:aB)(f:FuncId)(call:FuncId→List U→Option (U×List U))(S:ah)(g:Bool)(o:Oper):Option aT:=match o.op with| .move x=>ret o (un g (S.get C x))| .assign x=>ret o (un g (S.get C x))| .pick c a b=>pV o (un g (S.get C c)) (un (g&&jS (un g (S.get C c))) (S.get C a)) (un (g&& !jS (un g (S.get C c))) (S.get C b))| .alloc t=>ou C f S o t| .box t x=>mJ C f S o t (un g (S.get C x))| .build t parts=>pP C f o t (parts.toList.map fun p=>(p.1,un g (S.get C p.2)))| .buildSlice t len parts=>mK C f S o t len (parts.toList.map fun p=>(p.1,un g (S.get C p.2)))| .load t a=>iY C S o t (un g (S.get C a))| .store t a x=>k4 C f S g o t a (un g (S.get C a)) (un g (S.get C x))| .nilCheck x=>vt o (un g (S.get C x))| .binOp op t x y _=>ov C o op t x y (un g (S.get C x)) (un g (S.get C y))| .unOp op _ x=>q9 C o op (un g (S.get C x))| .convert src dst x=>ox C o src dst (un g (S.get C x))| .makeInterface t x=>pS C o t (un g (S.get C x))| .makeFunc fn first caps=>ret o (.fn fn (first.toList.map fun x=>un g (S.get C x)) (caps.toList.map fun x=>un g (S.get C x)))| .makeSlice t l c=>oy C S o t (un g (S.get C l)) (un g (S.get C c))| .slice t x lo hi mx=>if mx.isSome then none else mL C S o t (un g (S.get C x)) (lo.map fun y=>dA (un g (S.get C y))) (hi.map fun y=>dA (un g (S.get C y)))| .fieldAddr s x i=>pQ C f o s i (un g (S.get C x))| .field s x i=>tf C o s i (un g (S.get C x))| .indexAddr t x i=>k3 C S o t (un g (S.get C x)) (dA (un g (S.get C i)))| .index t x i=>pT C o t (un g (S.get C x)) (dA (un g (S.get C i)))| .extract x i=>td o (un g (S.get C x)) i| .makeMap t r=>q8 C S o t r| .lookup t x k ok=>q7 C S o t (un g (S.get C x)) (un g (S.get C k)) ok| .mapUpdate t x k v=>oz C S o t (un g (S.get C x)) (un g (S.get C k)) (un g (S.get C v))| .insert t x k v=>oz C S o t (un g (S.get C x)) (un g (S.get C k)) (un g (S.get C v))| .call c=>(match c.callee with| .builtin .len=>nH C o c.argTypes (c.args.toList.map fun x=>un g (S.get C x))| .builtin .append=>(jA C S o c.argTypes (c.args.toList.map fun x=>un g (S.get C x))).bind (mM C f o)| .builtin .copy=>q6 C S o c.argTypes (c.args.toList.map fun x=>un g (S.get C x))| .builtin .max=>(match gk (c.args.toList.map fun x=>un g (S.get C x))with|some vs=>jn o (zI C.P c.argTypes o.type vs)|none=>none)| .builtin .min=>(match gk (c.args.toList.map fun x=>un g (S.get C x))with|some vs=>jn o (zJ C.P c.argTypes o.type vs)|none=>none)| .value cj=>(match kD C (un g (S.get C cj))with|some x=>mG C f call S o x.1 (x.2.1++(c.args.toList.map fun x=>un g (S.get C x))++x.2.2)|none=>match pathOf C cj with|some p=>pU S o p (c.args.toList.map fun x=>un g (S.get C x))|none=>if uL C cj then(match cj with| .func k=>nD C f call S o k (c.args.toList.map fun x=>un g (S.get C x))|_=>none)else nC C f call S o (un g (S.get C cj)) (c.args.toList.map fun x=>un g (S.get C x)))|_=>none)|_=>none
/-! ## Regions -/
def nK(S:ah)(ops:Array Oper)(o:Oper):Option Bool:=match o.guard with|none=>some true|some (j,want)=>match(ops[j]?).bind (·.dst)with|some d=>(match S.t d with| .val (.bool b)=>some (b==want)| .cF g (.val (.bool b))=>some (g&&(b==want))| .cF false _=>some false|_=>none)|none=>none
def tW(o:Oper):aT:=put o (.cF false .aU) [] []
def pR(C:aB)(f:FuncId)(call:FuncId→List U→Option (U×List U))(S:ah)(ops:Array Oper)(o:Oper):Option aT:=match nK S ops o with|none=>none|some g=>match o.guard with|none=>bn C f call S true o|some _=>match bn C f call S g o with|some e=>if e.wr.isEmpty then some {e with cO:=e.cO.map fun x=>(x.1, .cF g x.2)}else if g then some e else some (tW o)|none=>if g then none else some (tW o)
abbrev gS:=Nat×List Id×List Id
def hkey(i:Nat)(e:aT)(l:List gS):List gS:=if e.rd.isEmpty&&e.wr.isEmpty then l else(i,e.rd,e.wr.map (·.1))::l
def jB(C:aB)(f:FuncId)(call:FuncId→List U→Option (U×List U))(ops:Array Oper):Nat→List Oper→ah→Option (ah×List gS)|_,[],S=>some (S,[])|i,o::l,S=>(pR C f call S ops o).bind fun e=>if e.cO.all fun x=>decide (x.1<S.n)then(jB C f call ops (i+1) l (S.app e)).map fun x=>(x.1,hkey i e x.2)else none
def nk(C:aB)(f:FuncId)(o:Oper):List Nat:=o.dst.toList++(match o.op with| .store _ a _=>(rj C f a).toList|_=>[])
def slotsOf(ops:Array Oper)(o:Oper):List Nat:=(o.op.operands.toList.filterMap fun| .tmp t=>some t|_=>none)++(match o.guard with|some (j,_)=>(match(ops[j]?).bind (·.dst)with|some d=>[d]|none=>[])|none=>[])
def u9(C:aB)(f:FuncId)(ops:Array Oper)(oi oj:Oper):Bool:=((nk C f oi).all fun x=> !(slotsOf ops oj).contains x&& !(nk C f oj).contains x)&&((nk C f oj).all fun y=> !(slotsOf ops oi).contains y)
def w9(a s:List Nat):List Nat:=a.foldl (fun s x=>if s.contains x then s else x::s) s
def yA(ops:Array Oper):List (List Nat):=ops.toList.foldl (init:=[]) fun acc o=>acc++[o.after.toList.foldl (init:=[]) fun s e=>if Region.binds .any e then(if s.contains e.on then s else e.on::w9 (acc.getD e.on []) s)else s]
def uJ(C:aB)(f:FuncId)(id:Nat)(ops:Array Oper):Bool:=
 let b:=yA ops
 let l:=ops.toList.zipIdx
 Region.noSelect ops&&(l.all fun x=>l.all fun y=>if x.2<y.2 then(b.getD y.2 []).contains x.2||u9 C f ops x.1 y.1 else true)&&
 (l.all fun x=>x.1.after.all fun e=> !Region.binds .any e||decide (e.on<x.2))&&(C.iV f id).all fun p=>(b.getD p.2 []).contains p.1
def pO(a b:gS):Bool:=(a.2.2.all fun x=> !b.2.1.contains x&& !b.2.2.contains x)&&(b.2.2.all fun x=> !a.2.1.contains x)
def p7(iV:List (Nat×Nat)):List gS→Bool|[]=>true|x::l=>(l.all fun y=>iV.contains (x.1,y.1)||pO x y)&&p7 iV l
def lX(C:aB)(f:FuncId)(call:FuncId→List U→Option (U×List U))(id:Nat)(ops:Array Oper)(draw:Bool)(S:ah):Option ah:=(jB C f call ops 0 ops.toList S).bind fun x=>if draw then(if p7 (C.iV f id) x.2 then some x.1 else none)else some x.1
/-! ## Code -/
def jV:Code→Option Nat| .region id _ _=>some id| .seq a b=>(match jV a with|some i=>some i|none=>jV b)| .cond _ a b=>(match jV a with|some i=>some i|none=>jV b)| .block _ c=>jV c| .loop c=>jV c| .scope c=>jV c|_=>none
def gQ(L:Id→Option (Option Rows))(t:Nat→U):List Nat→Option (List U×List Id)|[]=>some ([],[])|s::l=>(pk L 9 (t s)).bind fun x=>(gQ L t l).map fun y=>(x.1::y.1,x.2++y.2)
def gA(S:ah)(slots:List Nat):Option (List U):=match gQ S.h S.t slots with|some (bB,ids)=>if de ids then some bB else none|none=>none
def aI(n:Nat):List Nat→List U→ah
 |s::l,v::vs=>
  let S:=aI n l vs
  {n,t:=ai S.t s (imp [s] v).1,h:=aQ S.h (imp [s] v).2}
 |_,_=>{n,t:=fun _=> .aU,h:=fun _=>none}
def mH(keep:Id→Bool)(S:ah)(o:Id):Option ah:=match S.h o with|some (some rows)=>if dz rows then some S else(match ef (iW S.h keep) rows with|some (aV,ids)=>if de ids&& !ids.contains o then some ⟨S.n,S.t,aQ S.h ((o,some aV)::ids.map fun i=>(i,none))⟩else none|none=>none)|_=>none
def gG(keep:Id→Bool):List Id→ah→Option ah|[],S=>some S|o::l,S=>(mH keep S o).bind (gG keep l)
def mZ(S:ah)(s:Nat):ah:=match S.t s,S.h [s,s]with| .bQ,none=>⟨S.n,ai S.t s (.rs [s,s] 0 0),ai S.h [s,s] (some (some []))⟩|_,_=>S
def hM:List Nat→ah→ah|[],S=>S|s::l,S=>hM l (mZ S s)
def oQ(l:List (Id×Id))(slots:List Nat)(S:ah):Option ah:=if de (l.map (·.1))&&de (l.map (·.2))&&l.all (fun x=> !gK x.2||x.1==x.2)then(l6 S.h l l).map fun hl=>⟨S.n,kJ l S.t slots,gL hl⟩else none
def xe(S:ah)(slots:List Nat)(l:List (Id×Id)):Option ah:=(gG (oO l) (l.map (·.1)) S).bind (oQ l slots)
def norm(S:ah)(slots:List Nat):Option ah:=xe (hM slots S) slots (names (hM slots S) slots)
def dj(o:Option (Bool×List Nat))(S:ah):Option ah:=match o with|none=>some S|some (true,l)=>norm S l|some (false,l)=>(gA S l).map (aI S.n l)
def fN(C:aB)(f:FuncId)(b:Code):Option (Bool×List Nat):=match jV b with|some i=>C.yR f i|none=>none
def k5(S:ah)(s:Nat):Option ah:=match pk S.h 9 (S.t s)with|some (v,ids)=>if de ids then some ⟨S.n,ai S.t s (cS v),aQ S.h (ids.map fun i=>(i,none))⟩else none|none=>none
def kC(S:ah)(s:Nat):Option ah:=match S.t s with| .mp id 0 0=>(match S.h id with|some (some [cells])=>if dG cells then some ⟨S.n,ai S.t s (.aL cells),ai S.h id (some none)⟩else none|_=>none)| .rs _ _ _=>k5 S s| .bQ=>k5 S s| .mr _=>k5 S s| .sl _=>some S|_=>none
def iJ:List Nat→ah→Option ah|[],S=>some S|s::l,S=>(kC S s).bind (iJ l)
def nh(p:Nat)(S:ah)(s:Nat):Option ah:=match S.t s with| .mp id _ _=>(match S.h id with|some (some [r])=>if(bw [p,s] 0 r).2.isEmpty then some S else if s<S.n∧fresh S.h (bw [p,s] 0 r).2=true then some ⟨S.n,S.t,aQ S.h ((id,some [(bw [p,s] 0 r).1])::(bw [p,s] 0 r).2)⟩else none|_=>none)|_=>none
def jL(p:Nat):List Nat→ah→Option ah|[],S=>some S|s::l,S=>(nh p S s).bind (jL p l)
def lU(C:aB)(f:FuncId)(id:Nat)(S:ah):Option ah:=(jL (1000+id) (C.gO f id) S).bind fun aZ=>(iJ (C.iK f id) aZ).bind (dj (C.gY f id))
abbrev ki:=(α:Type)→(α→Option (Exit×ah))→(ah→Option α)→α→Option (Exit×ah)
def fW{α:Type}(g:α→Option (Exit×ah))(rn:ah→Option α):Nat→α→Option (Exit×ah)|0,_=>none|n+1,bB=>(g bB).bind fun x=>match x.1 with| .normal=>(rn x.2).bind (fW g rn n)|_=>some x
/-! A range over a function: each round begins with the slots of the loop's entry, and with what has been yielded. -/
def D9(t:Nat→U):List (Nat×U)→Nat→U|[]=>t|(p,v)::l=>D9 (ai t p v) l
def Et(S:ah)(ps:List Nat)(y:List U):Option ah:=if ps.length=y.length∧(ps.all fun p=>decide (p<S.n))=true then some ⟨S.n,D9 S.t (ps.zip y),S.h⟩else none
def oA(g:ah→Option (Exit×ah))(rn:ah→Option ah)(ps:List Nat):List (List U)→ah→Option (Exit×ah)|[],S=>some (.normal,S)|y::ys,S=>(Et S ps y).bind fun aZ=>(g aZ).bind fun x=>(rn x.2).bind fun cA=>match x.1 with| .normal=>oA g rn ps ys cA| .ret=>some (.ret,cA)| .exit i=>some (.exit i,cA)|_=>none
def Ko(assign body:Code):Option Nat:=match jV assign with|some i=>some i|none=>jV body
def sx(C:aB)(f:FuncId)(assign body:Code):List Nat:=match Ko assign body with|some i=>C.live f i|none=>[]
def Kn(C:aB)(f:FuncId)(assign body:Code):Option (Bool×List Nat):=some (match Ko assign body with|some i=>C.shr f i|none=>false,sx C f assign body)
def Ef(C:aB)(x:U):Option (List (List U)):=match x with
 | .fn (.func k) [] caps=>if dG caps then(C.iter k).bind (· caps)else none
 |_=>none
def bI(C:aB)(f:FuncId)(call:FuncId→List U→Option (U×List U))(bu:ki):Code→ah→Option (Exit×ah)
 | .skip,S=>some (.normal,S)
 | .label _,S=>some (.normal,S)
 | .exit id,S=>some (.exit id,S)
 | .ret,S=>some (.ret,S)
 | .region id ops draw,S=>((iJ (C.jC f id) S).bind fun eG=>(lX C f call id ops draw eG).bind (lU C f id)).map fun S'=>(.normal,S')
 | .seq a b,S=>(bI C f call bu a S).bind fun x=>match x.1 with
  | .normal=>(dj (fN C f b) x.2).bind (bI C f call bu b)
  |_=>some x
 | .cond c a b,S=>match un true (S.get C c)with
  | .val (.bool t)=>if t then bI C f call bu a S else bI C f call bu b S
  |_=>none
 | .block id c,S=>(bI C f call bu c S).bind fun x=>match(match x.1 with| .exit i=>if i=id then .normal else .exit i|e=>e:Exit)with
  | .normal=>(dj (C.lT f id) x.2).map fun S'=>(.normal,S')
  |e=>some (e,x.2)
 | .loop c,S=>
  let slots:=match jV c with|some i=>C.live f i|none=>[]
  if(match jV c with|some i=>C.shr f i|none=>false)then
   (norm S slots).bind fun aZ=>bu ah (fun S'=>bI C f call bu c S') (fun S'=>norm S' slots) aZ
  else(gA S slots).bind fun bB=>bu (List U) (fun bB=>bI C f call bu c (aI S.n slots bB)) (fun S'=>gA S' slots) bB
 | .rangeFunc g ps assign body,S=>(Ef C (un true (S.get C g))).bind fun ys=>(dj (Kn C f assign body) S).bind
   (oA (fun aZ=>(bI C f call bu assign aZ).bind fun x=>match x.1 with| .normal=>bI C f call bu body x.2|_=>none) (dj (Kn C f assign body)) ps.toList ys)
 |_,_=>none
/-! ## Functions -/
def qB(C:aB)(S:ah):ResultVar→Option (U×List Id)| .tmp t=>pk S.h 9 (un true (S.t t))| .cell a ty=>match iM C ty,fE C ty,un true (S.t a)with|some b,some n, .aL cells=>if n≤cells.length then((gx b (cells.take n)).bind (pk S.h 9))else none|some b,some n, .mp id row off=>(match S.h id with|some (some rows)=>(match rows[row]? with|some r=>if off+n≤r.length then((gx b ((r.drop off).take n)).bind (pk S.h 9)).map fun x=>(x.1,id::x.2)else none|none=>none)|_=>none)|_,_,_=>none
def iD(C:aB)(S:ah):List ResultVar→Option (List U×List Id)|[]=>some ([],[])|r::l=>(qB C S r).bind fun x=>(iD C S l).map fun y=>(x.1::y.1,x.2++y.2)
def finish(C:aB)(fn:Func)(bL:List Nat)(_args:List U)(S:ah):Option (U×List U):=match iD C S fn.results.toList,gQ S.h S.t bL with|some (rs,i1),some (outs,i2)=>if de (i1++i2)then some (match rs with|[r]=>r|_=> .aE rs,outs)else none|_,_=>none
/-! At the end of a call whose objects keep their places. -/
def jU(L:Id→Option (Option Rows))(keep:Id→Bool):U→Option (U×List Id)| .agg cs=>(dF (fz L keep) cs).map fun x=>(.agg x.1,x.2)|a=>fz L keep a
def qC(C:aB)(S:ah)(p:U→Option (U×List Id)):ResultVar→Option (U×List Id)| .tmp t=>p (un true (S.t t))| .cell a ty=>match iM C ty,fE C ty,un true (S.t a)with|some b,some n, .aL cells=>if n≤cells.length then((gx b (cells.take n)).bind p)else none|some b,some n, .mp id row off=>(match S.h id with|some (some rows)=>(match rows[row]? with|some r=>if off+n≤r.length then((gx b ((r.drop off).take n)).bind p).map fun x=>(x.1,id::x.2)else none|none=>none)|_=>none)|_,_,_=>none
def jm(C:aB)(S:ah)(p:U→Option (U×List Id)):List ResultVar→Option (List U×List Id)|[]=>some ([],[])|r::l=>(qC C S p r).bind fun x=>(jm C S p l).map fun y=>(x.1::y.1,x.2++y.2)
def jH:Option (Option Rows)→Bool|some (some _)=>true|_=>false
def iO(L:Id→Option (Option Rows))(keep:Id→Bool):List Id→Option (List U×List Id)|[]=>some ([],[])|k::r=>match L k with|some (some rows)=>(kA L keep rows).bind fun x=>(iO L keep r).map fun y=>(.aP k x.1::y.1,x.2++y.2)|_=>(iO L keep r).map fun y=>(.aU::y.1,y.2)
def lg(ids:List Id)(S:ah):ah:=⟨S.n,S.t,aQ S.h (ids.map fun i=>(i,none))⟩
def oC(C:aB)(fn:Func)(ks:List Id)(S:ah):Option (U×List U):=
 let al:=ks.filter fun k=>jH (S.h k)
 let keep:Id→Bool:=fun i=>al.contains i
 match jm C S (jU S.h keep) fn.results.toList,iO S.h keep ks with
 |some (rs,i1),some (outs,i2)=>if de (al++(i1++i2))then some (match rs with|[r]=>r|_=> .aE rs,outs)else none
 |_,_=>none
def gq(C:aB)(f:FuncId)(call:FuncId→List U→Option (U×List U))(bu:ki):Code→ah→Option (Exit×ah)| .seq (.region id ops draw) b,S=>if C.yT f id then match ops.toList,draw with|[o0,o1],false=>(match o1.op,o1.guard,o1.dst with| .defer ⟨.value (.tmp d),args,_⟩,none,none=>if args.isEmpty then(jB C f call ops 0 [o0] S).bind fun x=>match x.1.t d with| .fn (.func k) _ _=>if C.kH k then gq C f call bu b x.1 else none|_=>none else none|_,_,_=>none)|_,_=>none else(bI C f call bu (.region id ops draw) S).bind fun x=>(match x.1 with| .normal=>(dj (fN C f b) x.2).bind (gq C f call bu b)|_=>some x)| .seq a b,S=>(bI C f call bu a S).bind fun x=>(match x.1 with| .normal=>(dj (fN C f b) x.2).bind (gq C f call bu b)|_=>some x)|c,S=>bI C f call bu c S
def lV(C:aB)(f:FuncId):Code→Bool| .seq (.region id _ _) b=>C.yT f id||lV C f b| .seq _ b=>lV C f b|_=>false
def qq:List U→Option (List (Id×Rows))|[]=>some []| .aP i rows::l=>(qq l).map ((i,rows)::·)|_::_=>none
def sB(n:Nat)(ps:List U)(hl:List (Id×Rows)):ah:=⟨n,fun t=>ps.getD t .aU,gL hl⟩
def vr(C:aB)(call:FuncId→List U→Option (U×List U))(bu:ki)(f:FuncId)(fn:Func)(c:Code):List U→Option (U×List U)| .aE obs::ps=>(match qq obs with|some hl=>if ps.length≤fn.ntmps∧fn.ntmps≤fX then((jL fX (C.gO f fX) (sB fn.ntmps ps hl)).bind (if lV C f c then gq C f call bu c else bI C f call bu c)).bind fun x=>match x.1 with| .normal=>oC C fn (hl.map (·.1)) (lg (C.nF f) x.2)| .ret=>oC C fn (hl.map (·.1)) (lg (C.nF f) x.2)|_=>none else none|none=>none)|_=>none
def nG(C:aB)(call:FuncId→List U→Option (U×List U))(bu:ki)(f:FuncId)(args:List U):Option (U×List U):=match C.ext f with|some g=>g args|none=>match C.P.funcs[f]? with|some fn=>(match fn.body with|some c=>if C.fP f then vr C call bu f fn c args else if args.length≤fn.ntmps then(bI C f call bu c (aI fn.ntmps (List.range args.length) args)).bind fun x=>match x.1 with| .normal=>finish C fn (C.bL f) args x.2| .ret=>finish C fn (C.bL f) args x.2|_=>none else none|none=>none)|none=>none
end Go.Ab
