import Derived.Deep.Quiet
open List renaming replicate→AC
set_option linter.all false
namespace Go.Ab
open Go
abbrev Id:=List Nat
inductive U where|val(v:Value)|sl(rows:List (List U))|aI(cells:List U)|cu|rs(id:Id)(off len:Nat)|mp(id:Id)(row off:Nat)|fn(f:Fn)(first caps:List U)|agg(cells:List U)|aT(vs:List U)|own(rows:List (List U))(len:Nat)|aU(cells:List U)|c8(g:Bool)(x:U)|nn|mr(id:Id)|ep(rows:List (List U))|im(rows:List (List U))|bf(id:List Nat)(rows:List (List U))|zR(v:Value)|bp deriving Inhabited
abbrev Rows:=List (List U)
structure ah where
 n:Nat
 t:Nat→U
 h:Id→Option (Option Rows)
structure bn where
 dA:List (Nat×U)
 rd:List Id
 wr:List (Id×Option Rows)
def ak{α β:Type}[DecidableEq α](f:α→β)(k:α)(v:β):α→β:=fun j=>if j=k then v else f j
def cT(t:Nat→U):List (Nat×U)→Nat→U|[]=>t|(i,v)::l=>ak (cT t l) i v
def bk(h:Id→Option (Option Rows)):List (Id×Option Rows)→Id→Option (Option Rows)|[]=>h|(i,r)::l=>ak (bk h l) i (some r)
def ah.app(s:ah)(e:bn):ah:={n:=s.n,t:=cT s.t e.dA,h:=bk s.h e.wr}
def ey:Value→Bool| .bool _| .int _ _| .float _ _| .string _| .pointer _| .nilFunc| .nilIface| .map none| .iface _ (.int _ _)| .iface _ (.string _)| .iface _ (.bool _)=>true|_=>false
def cY{α:Type}(P:Program):Sem α→Option α| .pure a=>some a| .program k=>cY P (k P)|_=>none
structure aF where
 P:Program
 cw:Nat→Option (List U)
 ext:FuncId→Option (List U→Option (U×List U))
 ct:FuncId→List Nat
 xk:FuncId→List Nat:=fun _=>[]
 shr:FuncId→Nat→Bool:=fun _ _=>false
 eD:FuncId→List Nat
 live:FuncId→Nat→List Nat
 hU:FuncId→Nat→List (Nat×Nat)
 jh:FuncId→Nat→Option (Bool×List Nat):=fun _ _=>none
 oP:FuncId→Nat→Option (Bool×List Nat):=fun _ _=>none
 Ep:FuncId→Nat→Option (Bool×List Nat):=fun _ _=>none
 path:FuncId→Option (Nat×Nat):=fun _=>none
 vo:FuncId→Nat→List Nat:=fun _ _=>[]
 iter:FuncId→Option (List U→Option (List (List U))):=fun _=>none
 look:FuncId→Bool:=fun _=>false
 j6:FuncId→Nat→List Nat:=fun _ _=>[]
 gU:FuncId→Bool:=fun _=>false
 iT:FuncId→Nat→List Nat:=fun _ _=>[]
 lE:FuncId→Nat→List Nat:=fun _ _=>[]
 q3:FuncId→List Id:=fun _=>[]
 Et:FuncId→Nat→Bool:=fun _ _=>false
 nw:FuncId→Bool:=fun _=>false
 amF:FuncId→Nat→Bool:=fun _ _=>false
def ah.get(C:aF)(s:ah):Operand→U| .tmp t=>s.t t| .const v=>if ey v then .val v else(match v with| .slice none 0 0=> .cu|_=> .bp)| .global g=>(match C.cw g with|some cs=> .aI cs|none=> .bp)| .func f=> .fn (.func f) [] []
def un(g:Bool):U→U| .c8 g' x=>if !g||g' then x else .bp|x=>x
def iW:List U→Option (List Value)|[]=>some []| .val v::l=>(iW l).map (v::·)|_::_=>none
def ox:U→Option Value| .val v=>some v| .agg cs=>(iW cs).map fun vs=> .agg ⟨vs⟩|_=>none
def KG(v:Value):Option U:=if ey v then some (.val v)else match v with| .slice none 0 0=>some .cu|_=>none
def zQ:List Value→Option (List U)|[]=>some []|v::l=>match KG v with|some a=>(zQ l).map (a::·)|none=>none
def xT(C:aF)(t:TypeId):Option (List U):=match(C.P.info? t).bind (·.zero)with|some v=>zQ v.cells.toList|none=>none
def KF(v:Value):Option U:=if ey v then some (.val v)else match v with| .slice none 0 0=>some (.own [] 0)|_=>none
def xp:List Value→Option (List U)|[]=>some []|v::l=>match KF v with|some a=>(xp l).map (a::·)|none=>none
def xU(C:aF)(t:TypeId):Option (List U):=match(C.P.info? t).bind (·.zero)with|some v=>xp v.cells.toList|none=>none
def gQ(C:aF)(t:TypeId):Option Nat:=(C.P.info? t).map (·.size)
def kV(C:aF)(t:TypeId):Option Bool:=(C.P.underlying t).map fun| .struct _=>true| .array _ _=>true|_=>false
def nz:U→U| .cu=> .sl []|x=>x
def kZ(l:List U):List U:=l.map nz
def U.cell:U→Bool| .val _| .sl _| .aI _| .cu| .rs _ _ _| .mp _ _ _| .fn _ _ _| .nn| .mr _| .im _=>true|_=>false
def oO(Fs:Bool):U→Option (List U)| .agg cs=>if Fs&&cs.all U.cell then some cs else none|x=>if !Fs&&x.cell then some [x]else none
def iR(Fs:Bool)(cs:List U):Option U:=if Fs then some (.agg cs)else match cs with|[c]=>some c|_=>none
def bM(p:Id):Nat→List U→List U×List (Id×Option Rows)|_,[]=>([],[])|j,c::cs=>match c with| .own rows len=>(.rs (j::p) 0 len::(bM p (j+1) cs).1,(j::p,some rows)::(bM p (j+1) cs).2)| .aU cells=>(.mp (j::p) 0 0::(bM p (j+1) cs).1,(j::p,some [cells])::(bM p (j+1) cs).2)| .ep rows=>(.mr (j::p)::(bM p (j+1) cs).1,(j::p,some rows)::(bM p (j+1) cs).2)| .agg _=>(.bp::(bM p (j+1) cs).1,(bM p (j+1) cs).2)| .aT _=>(.bp::(bM p (j+1) cs).1,(bM p (j+1) cs).2)|c=>(c::(bM p (j+1) cs).1,(bM p (j+1) cs).2)
def eT(p:Id):Nat→List U→List U×List (Id×Option Rows)|_,[]=>([],[])|j,c::cs=>match c with| .own rows len=>(.rs (j::p) 0 len::(eT p (j+1) cs).1,(j::p,some rows)::(eT p (j+1) cs).2)| .aU cells=>(.mp (j::p) 0 0::(eT p (j+1) cs).1,(j::p,some [cells])::(eT p (j+1) cs).2)| .ep rows=>(.mr (j::p)::(eT p (j+1) cs).1,(j::p,some rows)::(eT p (j+1) cs).2)| .agg l=>(.agg (bM (j::p) 0 l).1::(eT p (j+1) cs).1,(bM (j::p) 0 l).2++(eT p (j+1) cs).2)| .aT _=>(.bp::(eT p (j+1) cs).1,(eT p (j+1) cs).2)|c=>(c::(eT p (j+1) cs).1,(eT p (j+1) cs).2)
def imp(p:Id):U→U×List (Id×Option Rows)| .own rows len=>(.rs p 0 len,[(p,some rows)])| .aU cells=>(.mp p 0 0,(p,some [(bM p 0 cells).1])::(bM p 0 cells).2)| .ep rows=>(.mr p,[(p,some rows)])| .agg l=>(.agg (bM p 0 l).1,(bM p 0 l).2)| .aT l=>(.aT (eT p 0 l).1,(eT p 0 l).2)|x=>(x,[])
mutual def flat:U→Bool| .rs _ _ _| .mp _ _ _| .c8 _ _| .cu| .mr _=>false| .own rows _=>ef rows| .aU cells=>cK cells| .agg cells=>cK cells| .aT vs=>cK vs| .fn _ first caps=>cK first&&cK caps|_=>true def cK:List U→Bool|[]=>true|c::cs=>flat c&&cK cs def ef:List (List U)→Bool|[]=>true|r::rs=>cK r&&ef rs end
mutual def ff:U→Bool| .rs _ _ _| .mp _ _ _| .c8 _ _| .cu| .own _ _| .aU _| .mr _| .ep _| .bp=>false| .agg cells=>ew cells| .aT vs=>ew vs| .fn _ first caps=>ew first&&ew caps|_=>true def ew:List U→Bool|[]=>true|c::cs=>ff c&&ew cs end
def iQ(rows:Rows):Bool:=rows.all ew
def dN(p:U→Option (U×List Id)):List U→Option (List U×List Id)|[]=>some ([],[])|c::cs=>(p c).bind fun x=>(dN p cs).map fun y=>(x.1::y.1,x.2++y.2)
def dO(p:List U→Option (List U×List Id)):Rows→Option (Rows×List Id)|[]=>some ([],[])|r::rs=>(p r).bind fun x=>(dO p rs).map fun y=>(x.1::y.1,x.2++y.2)
def gY(p:U→Option (U×List Id))(cs:List U):Option (List U×List Id):=if cK cs then some (cs,[])else dN p cs
def lO(p:U→Option (U×List Id))(rs:Rows):Option (Rows×List Id):=if ef rs then some (rs,[])else dO (gY p) rs
def pk(L:Id→Option (Option Rows)):Nat→U→Option (U×List Id)|0,_=>none|n+1,a=>match a with| .rs id off len=>(match L id with|some (some rs)=>if off=0∧len≤rs.length then(lO (pk L n) rs).map fun x=>(.own x.1 len,id::x.2)else none|_=>none)| .mp id row off=>(match L id with|some (some [cs])=>if row=0∧off=0 then(gY (pk L n) cs).map fun x=>(.aU x.1,id::x.2)else none|_=>none)| .mr id=>(match L id with|some (some rs)=>some (.ep rs,[id])|_=>none)| .cu=>some (.own [] 0,[])| .agg cs=>(gY (pk L n) cs).map fun x=>(.agg x.1,x.2)| .aT cs=>(gY (pk L n) cs).map fun x=>(.aT x.1,x.2)| .fn f a b=>if ew a&&ew b then some (.fn f a b,[])else none| .c8 _ _=>some (.bp,[])| .own rs len=>if ef rs then some (.own rs len,[])else none| .aU cs=>if cK cs then some (.aU cs,[])else none|a=>some (a,[])
def iy(p:U→Option (U×List Id))(cs:List U):Option (List U×List Id):=if ew cs then some (cs,[])else dN p cs
def lp(p:U→Option (U×List Id))(rs:Rows):Option (Rows×List Id):=if iQ rs then some (rs,[])else dO (iy p) rs
def b9(L:Id→Option (Option Rows)):Nat→U→Option (U×List Id)|0,_=>none|n+1,a=>match a with| .rs id off len=>(match L id with|some (some rs)=>if off+len≤rs.length then(lp (b9 L n) ((rs.drop off).take len)).map fun x=>(.sl x.1,id::x.2)else none|_=>none)| .mp id row off=>(match L id with|some (some rs)=>(match rs[row]? with|some r=>if off≤r.length then(iy (b9 L n) (r.drop off)).map fun x=>(.aI x.1,id::x.2)else none|none=>none)|_=>none)| .mr id=>(match L id with|some (some rs)=>some (.im rs,[id])|_=>none)| .ep rs=>some (.im rs,[])| .own rs len=>(lp (b9 L n) (rs.take len)).map fun x=>(.sl x.1,x.2)| .aU cs=>(iy (b9 L n) cs).map fun x=>(.aI x.1,x.2)| .cu=>some (.sl [],[])| .agg cs=>(iy (b9 L n) cs).map fun x=>(.agg x.1,x.2)| .aT cs=>(iy (b9 L n) cs).map fun x=>(.aT x.1,x.2)| .fn f a b=>(iy (b9 L n) a).bind fun x=>(iy (b9 L n) b).map fun y=>(.fn f x.1 y.1,x.2++y.2)| .c8 _ _=>some (.bp,[])|a=>some (a,[])
def qT(L:Id→Option (Option Rows))(as:List U):Option (List U×List Id):=dN (b9 L 9) as
/-! ## One operation -/
def put(o:Oper)(v:U)(rd:List Id)(wr:List (Id×Option Rows)):bn:={dA:=match o.dst with|some d=>[(d,v)]|none=>[],rd,wr}
def fresh(L:Id→Option (Option Rows))(l:List (Id×Option Rows)):Bool:=l.all fun x=>(L x.1).isNone
def C5(C:aF):List Field→Option (List (Nat×Nat×Bool))|[]=>some []|f::l=>match gQ C f.type,kV C f.type,C5 C l with|some n,some b,some r=>some ((f.offset,n,b)::r)|_,_,_=>none
def Lf(C:aF)(t:TypeId):Option (List (Nat×Nat×Bool)):=match C.P.underlying t with|some (.struct fields)=>C5 C fields.toList|_=>none
def wh(place:List (Nat×Nat×Bool))(cells:List U):List (Nat×U)→Option (List U)|[]=>some cells|(i,v)::rest=>match place[i]? with|none=>none|some (off,n,b)=>match oO b v with|none=>none|some cs=>if cs.length=n∧off+n≤cells.length then wh place (cells.take off++cs++cells.drop (off+n)) rest else none
def sF(n:Nat)(b:Bool)(rows:Rows):List (Nat×U)→Option Rows|[]=>some rows|(i,v)::rest=>match oO b v with|none=>none|some cs=>if cs.length=n∧i<rows.length then sF n b (rows.set i cs) rest else none
def ei:U→Option Int| .val (.int _ n)=>some n|_=>none
def tZ(n:Int):U:= .val (.int .i64 n)
def oa:Nat:=4294967296
def rowsOf(L:Id→Option (Option Rows)):U→Option (Rows×List Id)| .sl rows=>some (rows,[])| .cu=>some ([],[])| .rs id off len=>(match L id with|some (some rs)=>if off+len≤rs.length then some ((rs.drop off).take len,[id])else none|_=>none)|_=>none
def qz(rows:Rows):Bool:=rows.all (·.all U.cell)
def sr(a b:List Id):Bool:=a.all fun x=> !b.contains x
def dQ:List Id→Bool|[]=>true|x::l=> !l.contains x&&dQ l
mutual def mine:U→Bool| .val _| .bp| .cu| .nn| .ep _=>true| .own rows _=>zI rows| .aU cells=>jK cells| .agg cells=>jK cells| .aT vs=>jK vs|_=>false def jK:List U→Bool|[]=>true|c::cs=>mine c&&jK cs def zI:List (List U)→Bool|[]=>true|r::rs=>jK r&&zI rs end
mutual def dJ:U→U| .own rows len=> .sl ((j5 rows).take len)| .aU cells=> .aI (jE cells)| .ep rows=> .im rows| .agg cells=> .agg (jE cells)| .aT vs=> .aT (jE vs)|x=>x def jE:List U→List U|[]=>[]|c::cs=>dJ c::jE cs def j5:List (List U)→List (List U)|[]=>[]|r::rs=>jE r::j5 rs end
def eK(C:aF)(f:FuncId)(d:Option Nat):Bool:=match d with|some d=>(C.eD f).contains d|none=>false
def CO:List U→Bool|[.val _]=>true|[.aI _]=>true|_=>false
def xe(S:ah)(o:Oper)(as:List U):Option bn:=match as with|[.val (.int .i64 i), .mp id 0 0, .aI cells]=>(match cells[4]?,S.h id with|some (U.sl ks),some (some [[.rs gE 0 n]])=>(match S.h gE,ks[i.toNat]? with|some (some rows),some [.val (.int .i64 c)]=>(match rows[c.toNat]? with|some [x]=>if 0≤i∧0≤c∧n=rows.length∧rows.all CO=true∧ff x=true∧o.dst.isSome=true then some (put o x [id,gE] [])else none|_=>none)|_,_=>none)|_,_=>none)|_=>none
def qX(C:aF)(f:FuncId)(call:FuncId→List U→Option (U×List U))(S:ah)(o:Oper)(fv:U)(args:List U):Option bn:=match fv with| .fn (.func k) first caps=>if C.look k then xe S o (first++args++caps)else(match qT S.h (first++args++caps),o.dst with|some (as,seen),some d=>(match call k as with|some (r,[])=>if !seen.isEmpty&& !mine r then none else if fresh S.h (imp [d] (if eK C f o.dst then dJ r else r)).2 then some (put o (imp [d] (if eK C f o.dst then dJ r else r)).1 seen (imp [d] (if eK C f o.dst then dJ r else r)).2)else none|_=>none)|_,_=>none)|_=>none
def Ao(C:aF):Operand→Bool| .func k=> !(C.xk k).isEmpty|_=>false
def jP(L:Id→Option (Option Rows)):List Nat→List U→Option (List U×List Id×List Id×List Id)|_,[]=>some ([],[],[],[])|ms,a::l=>(jP L ms.tail l).bind fun y=>match ms.headD 0 with|1=>(pk L 9 a).map fun x=>(x.1::y.1,y.2.1,x.2++y.2.2.1,y.2.2.2)|2=>(pk L 9 a).map fun x=>(dJ x.1::y.1,y.2.1,y.2.2.1,x.2++y.2.2.2)|_=>(b9 L 9 a).map fun x=>(x.1::y.1,x.2++y.2.1,y.2.2.1,y.2.2.2)
def ju(L:Id→Option (Option Rows)):U→U→Option (List (Id×Option Rows))| .mp id 0 0, .aU cs=>(match L id with|some (some [old])=>if cs.length=old.length then some [(id,some [cs])]else none|_=>none)| .rs id 0 n, .own rows len=>(match L id with|some (some (o1::os))=>if len=n∧rows.length=n∧n=(o1::os).length∧rows.all (·.length==o1.length)then some [(id,some rows)]else none|some (some [])=>if len=0∧rows.length=0∧n=0 then some [(id,some [])]else none|_=>none)| .mr id, .ep rows=>(match L id with|some (some _)=>some [(id,some rows)]|_=>none)| .rs _ _ _,_=>none| .mp _ _ _,_=>none| .mr _,_=>none| .agg _,_=>none|_,_=>some []
def jO(L:Id→Option (Option Rows)):List U→List U→Option (List (Id×Option Rows))|[],[]=>some []|a::as,b::bs=>(match ju L a b,jO L as bs with|some x,some y=>some (x++y)|_,_=>none)|_,_=>none
def rO(L:Id→Option (Option Rows)):U→U→Option (List (Id×Option Rows))| .agg as, .agg bs=>jO L as bs|a,b=>ju L a b
def gO(L:Id→Option (Option Rows))(args:List U):List Nat→List U→Option (List (Id×Option Rows))|[],[]=>some []|j::l,b::bs=>(match args[j]?,gO L args l bs with|some a,some y=>(match rO L a b with|some x=>some (x++y)|none=>none)|_,_=>none)|_,_=>none
def qY(C:aF)(f:FuncId)(call:FuncId→List U→Option (U×List U))(S:ah)(o:Oper)(k:FuncId)(args:List U):Option bn:=match jP S.h (C.xk k) args,o.dst with|some (as,seen,tk,dj),some d=>(match call k as with|some (r,outs)=>(match gO S.h args (C.ct k) outs with|some back=>if dQ (tk++dj)&&sr seen (tk++dj)&&(seen.isEmpty||mine r&&outs.all mine)&&dQ (back.map (·.1))&&(back.all fun x=>tk.contains x.1)&&fresh S.h (imp [d] (if eK C f o.dst then dJ r else r)).2 then some (put o (imp [d] (if eK C f o.dst then dJ r else r)).1 seen ((imp [d] (if eK C f o.dst then dJ r else r)).2++(back++(tk++dj).map fun i=>(i,none))))else none|none=>none)|none=>none)|_,_=>none
def DD(i:TypeInfo):Bool:=match i.zero with|some z=>z.cells.size==i.size|none=>false
def mA(S:ah)(o:Oper)(d m:Nat)(x:U)(xs ys:Rows)(i1 i2:List Id):Option bn:=match x with| .rs id off _=>(match S.h id with|some (some rows)=>if rows.all (·.length==m)&&decide (off=0)&&(!(xs++ys).isEmpty||rows.isEmpty)then some (put o (.rs [d] 0 (xs.length+ys.length)) (i1++i2) [(id,none),([d],some (xs++ys))])else none|_=>none)| .cu=>some (put o (.rs [d] 0 (xs.length+ys.length)) (i1++i2) [([d],some (xs++ys))])|_=>none
def yl(C:aF)(S:ah)(o:Oper)(t:TypeId)(x y:U):Option bn:=match C.P.underlying t,o.dst with|some (.slice e),some d=>(match C.P.info? e,rowsOf S.h x,rowsOf S.h y with|some i,some (xs,i1),some (ys,i2)=>if ys.all (·.length==i.size)&&decide (0<i.size)&&decide (i.bytes≤4096)&&DD i&&decide (xs.length+ys.length≤oa)&&qz ys&&(S.h [d]).isNone then mA S o d i.size x xs ys i1 i2 else none|_,_,_=>none)|_,_=>none
def ym(C:aF)(S:ah)(o:Oper)(t:TypeId)(x y:U):Option bn:=match C.P.underlying t,o.dst,ei y with|some (.slice e),some d,some n=>(match C.P.info? e,xU C e,rowsOf S.h x with|some i,some z,some (xs,i1)=>if decide (0≤n∧n≤4294967296)&&decide (z.length=i.size)&&decide (0<i.size)&&decide (i.bytes≤4096)&&DD i&&decide (xs.length+n.toNat≤oa)&&z.all U.cell&&(S.h [d]).isNone then mA S o d i.size x xs (AC n.toNat z) i1 []else none|_,_,_=>none)|_,_,_=>none
def CB:U→Option Nat| .sl rows=>some rows.length| .rs _ _ len=>some len| .cu=>some 0|_=>none
def CA:TypeDesc→U→Option Nat| .string, .val (.string s)=>some s.size| .slice _,x=>CB x|_,_=>none
def ret(o:Oper)(v:U):Option bn:=some (put o v [] [])
def lQ(o:Oper):Option Value→Option bn|some v=>if ey v then ret o (.val v)else none|none=>none
def tY(o:Oper)(c a b:U):Option bn:=match c with| .val (.bool h)=>(match a,b with| .val (.bool x), .val (.bool y)=>ret o (.val (.bool (if h then x else y)))|eP,hJ=>ret o (if h then eP else hJ))|_=>none
def Mw(l:List Nat):Nat→List U→List U|_,[]=>[]|j,c::cs=>(match c with| .own [] 0=>if l.contains j then .sl []else c| .cu=>if l.contains j then .sl []else c|c=>c)::Mw l (j+1) cs
def vp(l:List Nat)(cs:List U):List U:=match l with|[]=>cs|l=>Mw l 0 cs
def DE(C:aF)(f:FuncId)(o:Oper)(cs:List U):List U:=match o.dst with|some d=>vp (C.vo f d) cs|none=>cs
def mB:U→Bool| .val (.bool h)=>h|_=>false
def sy(C:aF)(f:FuncId)(S:ah)(o:Oper)(t:TypeId):Option bn:=match xU C t,o.dst with|some cs,some d=>if(S.h [d]).isNone then some (put o (.mp [d] 0 0) [] [([d],some [vp (C.vo f d) cs])])else none|_,_=>none
def p6(C:aF)(f:FuncId)(S:ah)(o:Oper)(t:TypeId)(x:U):Option bn:=match kV C t,o.dst with|some b,some d=>(match oO b x with|some cs=>if eK C f o.dst&&ew (kZ cs)then ret o (.aI (kZ cs))else if(S.h [d]).isNone then some (put o (.mp [d] 0 0) [] [([d],some [cs])])else none|none=>none)|_,_=>none
def tS(C:aF)(f:FuncId)(o:Oper)(t:TypeId)(parts:List (Nat×U)):Option bn:=match xT C t,Lf C t with|some z,some pl=>(match wh pl (DE C f o z) parts with|some cs=>ret o (.agg cs)|none=>none)|_,_=>none
def sB(C:aF)(f:FuncId)(S:ah)(o:Oper)(t:TypeId)(len:Nat)(parts:List (Nat×U)):Option bn:=match C.P.underlying t,o.dst with|some (.slice e),some d=>(match xT C e,kV C e,gQ C e with|some z,some b,some n=>if decide (0<n)&&decide (n=z.length)&&decide (len*n≤1000)then match sF n b (AC len z) parts with|some rows=>if eK C f o.dst&&iQ (rows.map kZ)then ret o (.sl (rows.map kZ))else if(S.h [d]).isNone then some (put o (.rs [d] 0 len) [] [([d],some rows)])else none|none=>none else none|_,_,_=>none)|_,_=>none
def yu(C:aF)(t:TypeId)(len:Nat)(parts:List (Nat×U)):Option Rows:=match C.P.underlying t with|some (.slice e)=>(match xT C e,kV C e,gQ C e with|some z,some b,some n=>if decide (0<n)&&decide (n=z.length)&&decide (len*n≤1000)then sF n b (AC len z) parts else none|_,_,_=>none)|_=>none
def Hv(C:aF)(f:FuncId)(o:Oper)(t:TypeId)(len:Nat)(parts:List (Nat×U)):Bool:=eK C f o.dst&&(match yu C t len parts with|some rows=> !iQ (rows.map kZ)|none=>false)
def Bd(C:aF)(S:ah)(o:Oper)(t:TypeId)(len:Nat)(parts:List (Nat×U)):Option bn:=match yu C t len parts,o.dst with|some rows,some _=>(match lO (pk S.h 8) rows with|some (bh,ids)=>if dQ ids then some (put o (.sl (j5 bh)) ids (ids.map fun i=>(i,none)))else none|none=>none)|_,_=>none
def p7(C:aF)(f:FuncId)(S:ah)(o:Oper)(t:TypeId)(len:Nat)(parts:List (Nat×U)):Option bn:=if Hv C f o t len parts then Bd C S o t len parts else sB C f S o t len parts
def iL(o:Oper):Id:=match o.dst with|some d=>[d]|none=>[1000000]
def lB(C:aF)(S:ah)(o:Oper)(t:TypeId)(a:U):Option bn:=match kV C t,gQ C t with|some b,some n=>(match a with| .aI cells=>if n≤cells.length then(iR b (cells.take n)).map fun v=>put o v [] []else none| .mp id row off=>(match S.h id with|some (some rows)=>(rows[row]?).bind fun r=>if off+n≤r.length then if(bM (iL o) 0 ((r.drop off).take n)).2.isEmpty then(iR b (bM (iL o) 0 ((r.drop off).take n)).1).map fun v=>put o v [id] []else if fresh S.h (bM (iL o) 0 ((r.drop off).take n)).2 then(iR b (bM (iL o) 0 ((r.drop off).take n)).1).map fun v=>put o v [id] ((id,some (rows.set row (r.take off++(bM (iL o) 0 ((r.drop off).take n)).1++r.drop (off+n))))::(bM (iL o) 0 ((r.drop off).take n)).2)else none else none|_=>none)|_=>none)|_,_=>none
def wk(C:aF)(f:FuncId)(a:Operand):Option Nat:=match a with| .tmp ta=>if(C.eD f).contains ta then some ta else none|_=>none
def nR(C:aF)(f:FuncId)(S:ah)(g:Bool)(o:Oper)(t:TypeId)(ao:Operand)(a x:U):Option bn:=match kV C t,gQ C t with|some b,some n=>(match a,oO b x with| .mp id row off,some cs=>if cs.length≠n then none else(match S.h id with|some (some rows)=>(rows[row]?).bind fun r=>if off+n≤r.length then match wk C f ao with|some ta=>if decide (off=0)&&decide (n=r.length)&&decide (rows.length=1)&&decide (row=0)&&ew (kZ cs)&&g&&o.dst.isNone then some {dA:=[(ta, .aI (kZ cs))],rd:=[id],wr:=[(id,none)]}else none|none=>if o.dst.isNone then some (put o .bp [id] [(id,some (rows.set row (r.take off++cs++r.drop (off+n))))])else none else none|_=>none)|_,_=>none)|_,_=>none
def Bg(o:Oper):U→Option bn| .aI cs=>ret o (.aI cs)| .mp id row off=>ret o (.mp id row off)| .fn (.func k) a b=>ret o (.fn (.func k) a b)|_=>none
def eR(P:Program)(op:BinOp)(t:TypeId)(x y:Operand)(a b:Value):Option Value:=cY P (do eqGuard op t x y a b;binOp op t a b)
def Dz(P:Program)(op:UnOp)(a:Value):Option Value:=cY P (Op.unary op a)
def En(P:Program)(src dst:TypeId)(a:Value):Option Value:=cY P (convert src dst a)
def Fw(P:Program)(ts:Array TypeId)(t:TypeId)(vs:List Value):Option Value:=cY P (Builtin.max_ ts t ⟨vs⟩)
def Fy(P:Program)(ts:Array TypeId)(t:TypeId)(vs:List Value):Option Value:=cY P (Builtin.min_ ts t ⟨vs⟩)
def Kw(op:BinOp)(a b:U):Option Bool:=match op,a,b with| .eql, .nn, .val .nilIface=>some false| .eql, .val .nilIface, .nn=>some false| .neq, .nn, .val .nilIface=>some true| .neq, .val .nilIface, .nn=>some true|_,_,_=>none
def Sk(op:BinOp)(a b:U):Option Bool:=match op,a,b with| .eql, .aI _, .val (.pointer none)=>some false| .neq, .aI _, .val (.pointer none)=>some true|_,_,_=>none
def sA(C:aF)(o:Oper)(op:BinOp)(t:TypeId)(x y:Operand)(a b:U):Option bn:=match ox a,ox b with|some a,some b=>lQ o (eR C.P op t x y a b)|_,_=>match C.P.underlying t,Kw op a b with|some (.interface _),some r=>ret o (.val (.bool r))|some (.pointer _),_=>(match Sk op a b with|some r=>ret o (.val (.bool r))|none=>none)|_,_=>none
def tV(C:aF)(o:Oper)(t:TypeId)(x:U):Option bn:=match C.P.underlying t with|some (.interface _)=>none|some _=>(match x with| .val v=>if ey (.iface t v)then ret o (.val (.iface t v))else ret o .nn|_=>ret o .nn)|none=>none
def we(C:aF)(o:Oper)(op:UnOp):U→Option bn| .val a=>lQ o (Dz C.P op a)|_=>none
def Be(C:aF)(o:Oper)(src dst:TypeId):U→Option bn| .val a=>lQ o (En C.P src dst a)|_=>none
def tN(C:aF)(src dst:TypeId):Bool:=match C.P.underlying src,C.P.underlying dst with|some _,some (.slice e)=>(match C.P.underlying e with|some (.int .u8)=>true|_=>false)|_,_=>false
def A0(s:ByteArray):Rows:=s.data.toList.map fun b=>[.val (.int .u8 b.toNat)]
def Ev(o:Oper):U→Option bn| .val (.string s)=>ret o (.sl (A0 s))|_=>none
def sC(C:aF)(o:Oper)(src dst:TypeId)(x:U):Option bn:=if tN C src dst then Ev o x else Be C o src dst x
def sD(C:aF)(S:ah)(o:Oper)(t:TypeId)(l c:U):Option bn:=match C.P.underlying t,o.dst,ei l,ei c with|some (.slice e),some d,some l,some c=>(match xU C e,C.P.info? e with|some z,some i=>if decide (0<z.length)&&decide (i.size=z.length)&&decide (i.bytes≤4096)&&decide (0≤l∧l≤c∧c≤4294967296∧(0<l∨c=0))&&(S.h [d]).isNone then some (put o (.rs [d] 0 l.toNat) [] [([d],some (AC l.toNat z))])else none|_,_=>none)|_,_,_,_=>none
def bounds(lo hi:Option (Option Int))(len:Nat):Option (Nat×Nat):=match(match lo with|none=>some 0|some l=>l),(match hi with|none=>some (len:Int)|some h=>h)with|some l,some h=>if 0≤l∧l≤h∧h≤len then some (l.toNat,h.toNat)else none|_,_=>none
def nQ(C:aF)(S:ah)(o:Oper)(t:TypeId)(x:U)(lo hi:Option (Option Int)):Option bn:=match C.P.underlying t with|some (.slice e)=>(match x,gQ C e with| .sl rows,some sz=>(bounds lo hi rows.length).bind fun b=>if 0<sz∧rows.all (·.length==sz)then ret o (.sl ((rows.take b.2).drop b.1))else none| .rs id off len,some sz=>(match S.h id with|some (some rows)=>(bounds lo hi len).bind fun b=>if off+len≤rows.length∧0<sz∧rows.all (·.length==sz)then some (put o (.rs id (off+b.1) (b.2-b.1)) [id] [])else none|_=>none)|_,_=>none)|some .string=>(match x with| .val (.string s)=>(bounds lo hi s.size).bind fun b=>ret o (.val (.string (s.extract b.1 b.2)))|_=>none)|_=>none
def Bi(C:aF)(s:TypeId)(i:Nat):Option (Nat×Nat×Bool):=match C.P.underlying s with|some (.struct fields)=>(match fields[i]? with|some fl=>(match gQ C fl.type,kV C fl.type with|some n,some b=>some (fl.offset,n,b)|_,_=>none)|none=>none)|_=>none
def tT(C:aF)(f:FuncId)(o:Oper)(s:TypeId)(i:Nat)(x:U):Option bn:=match Bi C s i with|some (off,n,_)=>(match x with| .aI cells=>if 0<n∧off≤cells.length then(if eK C f o.dst then(if off+n≤cells.length then ret o (.aI ((cells.drop off).take n))else none)else ret o (.aI (cells.drop off)))else none| .mp id row off'=>if 0<n then ret o (.mp id row (off'+off))else none|_=>none)|none=>none
def yJ(C:aF)(o:Oper)(s:TypeId)(i:Nat)(x:U):Option bn:=match Bi C s i with|some (off,n,b)=>(match x with| .agg cells=>if off+n≤cells.length then(iR b ((cells.drop off).take n)).map fun v=>put o v [] []else none|_=>none)|none=>none
def mD(C:aF)(S:ah)(o:Oper)(t:TypeId)(x:U)(i:Option Int):Option bn:=match C.P.underlying t,i with|some (.slice e),some i=>(match gQ C e,x with|some n, .sl rows=>if 0≤i then(rows[i.toNat]?).bind fun r=>if r.length=n∧0<n then ret o (.aI r)else none else none|some n, .rs id off len=>if 0≤i∧i<len then match S.h id with|some (some rows)=>(rows[off+i.toNat]?).bind fun r=>if r.length=n then some (put o (.mp id (off+i.toNat) 0) [id] [])else none|_=>none else none|_,_=>none)|some (.array len e),some i=>(match gQ C e,x with|some n, .aI cells=>if 0≤i∧i<len∧i.toNat*n≤cells.length then ret o (.aI (cells.drop (i.toNat*n)))else none|some n, .mp id row off=>if 0≤i∧i<len then ret o (.mp id row (off+i.toNat*n))else none|_,_=>none)|_,_=>none
def tW(C:aF)(o:Oper)(t:TypeId)(x:U)(i:Option Int):Option bn:=match C.P.underlying t,i,x with|some .string,some i, .val (.string s)=>if 0≤i then(s[i.toNat]?).bind fun b=>ret o (.val (.int .u8 b.toNat))else none|some (.array len e),some i, .agg cells=>(match gQ C e,kV C e with|some n,some b=>if 0≤i∧i<len∧(i.toNat+1)*n≤cells.length then(iR b ((cells.drop (i.toNat*n)).take n)).map fun v=>put o v [] []else none|_,_=>none)|_,_,_=>none
def yI(o:Oper)(x:U)(i:Nat):Option bn:=match x with| .aT vs=>(match vs[i]? with|some v=>ret o v|none=>none)|_=>none
def q5(C:aF)(o:Oper)(ts:Array TypeId)(xs:List U):Option bn:=match xs with|[x]=>(match(ts[0]?).bind C.P.underlying with|some d=>(match CA d x with|some n=>ret o (tZ n)|none=>none)|none=>none)|_=>none
def qb(C:aF)(f:FuncId)(o:Oper)(e:bn):Option bn:=if eK C f o.dst then match o.dst,e.wr with|some d,[(id,none),(d',some rows)]=>if d'=[d]∧iQ rows=true then some (put o (.sl rows) e.rd [(id,none),([d],none)])else none|some d,[(d',some rows)]=>if d'=[d]∧iQ rows=true then some (put o (.sl rows) e.rd [([d],none)])else none|_,_=>none else some e
def lV(C:aF)(S:ah)(o:Oper)(ts:Array TypeId)(xs:List U):Option bn:=match xs,ts[0]?,(ts[1]?).bind C.P.underlying with|[x,y],some t,some (.slice _)=>yl C S o t x y|[x,y],some t,some (.int _)=>ym C S o t x y|_,_,_=>none
def pathOf(C:aF):Operand→Option (Nat×Nat)| .func k=>C.path k|_=>none
def tX(S:ah)(o:Oper)(p:Nat×Nat):List U→Option bn|[.mp id row off]=>(match S.h id with|some (some rows)=>(match(rows[row]?).bind fun r=>r[off+p.1]? with|some (.rs gE off2 len)=>(match S.h gE with|some (some eU)=>if decide (0<len)&&decide (len≤oa)&&decide (off2+len≤eU.length)&&eU.all (·.length==p.2)then some (put o (.mp gE (off2+(len-1)) 0) [id,gE] [])else none|_=>none)|_=>none)|_=>none)|[.aI cells]=>(match cells[p.1]? with|some (.sl rows)=>if decide (rows.length≤oa)&&rows.all (·.length==p.2)then(rows[rows.length-1]?).map fun r=>put o (.aI r) [] []else none|_=>none)|_=>none
def FY:List U→Bool|[.val _]=>true|_=>false
def v8(C:aF)(S:ah)(o:Oper)(ts:Array TypeId)(xs:List U):Option bn:=match xs,(ts[0]?).bind C.P.underlying with|[x,y],some (.slice e)=>(match gQ C e,x,rowsOf S.h y with|some 1, .rs id off len,some (ys,i2)=>(match S.h id with|some (some rows)=>if ys.all FY&&rows.all (·.length==1)&&decide (off+len≤rows.length)then some (put o (tZ ((min ys.length len:Nat):Int)) (id::i2) [(id,some (rows.take off++ys.take (min ys.length len)++rows.drop (off+min ys.length len)))])else none|_=>none)|_,_,_=>none)|_,_=>none
/-! Maps: keys and values of one cell without an address. -/
def LN:TypeDesc→Bool| .int _| .string| .bool=>true|_=>false
def xh(L:Id→Option (Option Rows)):U→Option (Rows×List Id)| .mr id=>(match L id with|some (some rows)=>some (rows,[id])|_=>none)| .im rows=>some (rows,[])| .val (.map none)=>some ([],[])|_=>none
def oV(kind:TypeDesc)(k:Value):Rows→Option (Option Value)|[]=>some none|[.val k', .val v]::rs=>(match Instr.sameNow kind k k' with|some true=>some (some v)|some false=>oV kind k rs|none=>none)|_=>none
def xy(kind:TypeDesc)(k v:Value):Rows→Option Rows|[]=>some [[.val k, .val v]]|[.val k', .val v']::rs=>(match Instr.sameNow kind k k' with|some true=>some ([.val k, .val v]::rs)|some false=>(xy kind k v rs).map fun y=>[.val k', .val v']::y|none=>none)|_=>none
def LI(C:aF)(t:TypeId):Option Value:=match(C.P.info? t).bind (·.zero)with|some v=>if ey v then some v else none|none=>none
def zH(C:aF)(t:TypeId):Option (TypeDesc×Value):=match C.P.underlying t with|some (.map kt et)=>(match C.P.underlying kt,LI C et with|some kind,some z=>if LN kind then some (kind,z)else none|_,_=>none)|_=>none
def sE(C:aF)(S:ah)(o:Oper)(t:TypeId)(r:Option Operand):Option bn:=match zH C t,o.dst with|some _,some d=>if r.isNone&&(S.h [d]).isNone then some (put o (.mr [d]) [] [([d],some [])])else none|_,_=>none
def p8(C:aF)(S:ah)(o:Oper)(t:TypeId)(x k:U)(ok:Bool):Option bn:=match zH C t,xh S.h x,k with|some (kind,z),some (rows,ids), .val kv=>(oV kind kv rows).map fun r=>put o (if ok then .aT [.val (r.getD z), .val (.bool r.isSome)]else .val (r.getD z)) ids []|_,_,_=>none
def p9(C:aF)(S:ah)(o:Oper)(t:TypeId)(x k v:U):Option bn:=match zH C t,x,k,v with|some (kind,_), .mr id, .val kv, .val nH=>(match S.h id with|some (some rows)=>if ey kv&&ey nH&&o.dst.isNone then(xy kind kv nH rows).map fun bh=>put o .bp [id] [(id,some bh)]else none|_=>none)|_,_,_,_=>none
/-! Names that keep their place through a body: they end with a mark. -/
def iD:Nat:=999999
def jI:Id→Bool|[]=>false|[x]=>x==iD|_::y::l=>jI (y::l)
def rK(i q:Id):Id:=if jI i then i else if jI q then q++[0]else q
/-! What lives at a loop's head where names may be shared: the state itself, under names of its own. -/
def fU(l:List (Id×Id))(i:Id):Option Id:=match l with|[]=>none|(o,k)::l=>if o=i then some k else fU l i
def z7(l:List (Id×Id)):U→Option U| .rs i off len=>(fU l i).map fun k=> .rs k off len| .mp i row off=>(fU l i).map fun k=> .mp k row off| .mr i=>(fU l i).map fun k=> .mr k| .cu=>some .cu|a=>if flat a then some a else none
def z8(l:List (Id×Id)):List U→Option (List U)|[]=>some []|a::as=>match z7 l a,z8 l as with|some b,some bs=>some (b::bs)|_,_=>none
def uY(l:List (Id×Id)):U→Option U| .fn k as cs=>if cK as&&cK cs then some (.fn k as cs)else(match z8 l as,z8 l cs with|some x,some y=>some (.fn k x y)|_,_=>none)|a=>z7 l a
def pF(l:List (Id×Id)):List U→Option (List U)|[]=>some []|a::as=>match uY l a,pF l as with|some b,some bs=>some (b::bs)|_,_=>none
def eY(l:List (Id×Id)):U→U| .agg cs=>(match pF l cs with|some bs=> .agg bs|none=> .bp)| .aT cs=>(match pF l cs with|some bs=> .aT bs|none=> .bp)| .fn f as cs=>(match pF l as,pF l cs with|some bs,some ds=> .fn f bs ds|_,_=> .bp)|a=>match uY l a with|some b=>b|none=> .bp
def Ad(l:List (Id×Id)):Rows→Option Rows|[]=>some []|r::rs=>match pF l r,Ad l rs with|some b,some bs=>some (b::bs)|_,_=>none
def mm(l:List (Id×Id))(rows:Rows):Option Rows:=if ef rows then some rows else Ad l rows
def e8(L:Id→Option (Option Rows)):Nat→Id→Nat→List (Id×Id)→List U→List (Id×Id)|0,_,_,acc,_=>acc|_,_,_,acc,[]=>acc|n+1,p,j,acc,a::as=>e8 L n p (j+1) (match a with| .rs i _ _=>if(fU acc i).isSome then acc else acc++[(i,rK i (j::p))]| .mr i=>if(fU acc i).isSome then acc else acc++[(i,rK i (j::p))]| .mp i _ _=>if(fU acc i).isSome then acc else(match L i with|some (some [cs])=>e8 L n (j::p) 0 (acc++[(i,rK i (j::p))]) cs|_=>acc++[(i,rK i (j::p))])| .agg cs=>e8 L n (j::p) 0 acc cs| .fn _ as cs=>if cK as&&cK cs then acc else e8 L n (j::p) 0 acc (as++cs)|_=>acc) as
def oY(L:Id→Option (Option Rows))(l:List (Id×Id)):List (Id×Id)→Option (List (Id×Rows))|[]=>some []|(o,k)::r=>match L o,oY L l r with|some (some rows),some y=>(mm l rows).map fun bh=>(k,bh)::y|_,_=>none
def ny(l:List (Id×Id))(t:Nat→U):List Nat→Nat→U|[]=>fun _=> .bp|s::r=>ak (ny l t r) s (eY l (t s))
def jq:List (Id×Rows)→Id→Option (Option Rows)|[]=>fun _=>none|(k,rows)::r=>ak (jq r) k (some (some rows))
def names(S:ah)(slots:List Nat):List (Id×Id):=slots.foldl (fun acc s=>e8 S.h 40 [s] 0 acc [S.t s]) []
def QN(keep:Id→Bool):U→Bool| .rs i _ _=>keep i| .mp i _ _=>keep i| .mr i=>keep i|a=>flat a
def zB(keep:Id→Bool)(l:List U):Bool:=l.all (QN keep)
def gL(L:Id→Option (Option Rows))(keep:Id→Bool):U→Option (U×List Id)| .rs i off len=>if keep i then some (.rs i off len,[])else pk L 8 (.rs i off len)| .mp i row off=>if keep i then some (.mp i row off,[])else pk L 8 (.mp i row off)| .mr i=>if keep i then some (.mr i,[])else pk L 8 (.mr i)| .cu=>some (.own [] 0,[])| .fn k as cs=>if zB keep as&&zB keep cs then some (.fn k as cs,[])else none|a=>if flat a then some (a,[])else none
def lz(L:Id→Option (Option Rows))(keep:Id→Bool)(r:List U):Option (List U×List Id):=if cK r then some (r,[])else dN (gL L keep) r
def s3(l:List (Id×Id))(i:Id):Bool:=(fU l i).isSome
/-! Graph calls: arguments as they stand, and the objects that they lead to. -/
def nq(C:aF):U→Option (FuncId×List U×List U)| .fn (.func k) first caps=>if C.gU k then some (k,first,caps)else none|_=>none
def dU(L:Id→Option (Option Rows)):Nat→Bool→Id→Nat→List (Id×Id)→List U→List (Id×Id)|0,_,_,_,acc,_=>acc|_,_,_,_,acc,[]=>acc|n+1,b,p,j,acc,a::as=>dU L n b p (j+1) (match a with| .rs i _ _=>if !b||(fU acc i).isSome then acc else acc++[(i,j::p)]| .mr i=>if !b||(fU acc i).isSome then acc else acc++[(i,j::p)]| .mp i _ _=>if(fU acc i).isSome then acc else(match L i with|some (some [cs])=>dU L n false (j::p) 0 (acc++[(i,j::p)]) cs|_=>acc++[(i,j::p)])| .agg cs=>dU L n b (j::p) 0 acc cs| .fn _ as cs=>dU L n true (j::p) 0 acc (as++cs)|_=>acc) as
def nh(L:Id→Option (Option Rows))(keep:Id→Bool)(rows:Rows):Option (Rows×List Id):=if ef rows then some (rows,[])else dO (lz L keep) rows
def iE(L:Id→Option (Option Rows))(l:List (Id×Id)):List (Id×Id)→Option (List U×List Id)|[]=>some ([],[])|(o,k)::r=>match L o with|some (some rows)=>(nh L (s3 l) rows).bind fun x=>(mm l x.1).bind fun bh=>(iE L l r).map fun y=>(.bf k bh::y.1,x.2++y.2)|_=>none
def iK(l':List (Id×Id)):List (Id×Id)→List U→Option (List (Id×Option Rows))|[],[]=>some []|(o,k)::r, .bf k' rows::outs=>if k'=k then(mm l' rows).bind fun bh=>(iK l' r outs).map fun y=>(o,some bh)::y else none|(o,_)::r, .bp::outs=>(iK l' r outs).map fun y=>(o,none)::y|_,_=>none
structure xY where
 r:U
 l:List (Id×Id)
 back:List (Id×Option Rows)
 gone:List Id
def Bu(call:FuncId→List U→Option (U×List U))(L:Id→Option (Option Rows))(k:FuncId)(args:List U)(l:List (Id×Id)):Option xY:=match iE L l l with|some (obs,gone)=>if dQ (l.map (·.1))&&dQ (l.map (·.2))&&(l.all fun x=>jI x.2)&&dQ gone&&sr gone (l.map (·.1))then match call k (.aT obs::args.map (eY l))with|some (r,outs)=>(iK (l.map fun x=>(x.2,x.1)) l outs).map fun back=>⟨r,l,back,gone⟩|none=>none else none|none=>none
def q8(call:FuncId→List U→Option (U×List U))(L:Id→Option (Option Rows))(k:FuncId)(args:List U):Option xY:=Bu call L k args (dU L 60 true [iD] 0 [] args)
def rP(L:Id→Option (Option Rows))(b:Id×Option Rows):Bool:=match L b.1,b.2 with|some (some [[.mp i r f]]),some [[.mp i' r' f']]=>i==i'&&r==r'&&f==f'|_,_=>false
def j3(L:Id→Option (Option Rows))(back:List (Id×Option Rows)):List (Id×Option Rows):=back.filter fun b=> !rP L b
def zw:U→Bool| .zR _=>true|_=>false
def pZ(C:aF)(f:FuncId)(call:FuncId→List U→Option (U×List U))(S:ah)(o:Oper)(k:FuncId)(args:List U):Option bn:=
 (q8 call S.h k args).bind fun x=>
  if zw x.r then none else
  let y:=imp (iL o) (eY (x.l.map fun x=>(x.2,x.1)) (if eK C f o.dst then(if flat x.r then dJ x.r else .bp)else x.r))
  if fresh S.h y.2 then some (put o y.1 (x.l.map (·.1)) (y.2++(j3 S.h x.back++x.gone.map fun i=>(i,none))))else none
def bC(C:aF)(f:FuncId)(call:FuncId→List U→Option (U×List U))(S:ah)(g:Bool)(o:Oper):Option bn:=match o.op with| .move x=>ret o (un g (S.get C x))| .assign x=>ret o (un g (S.get C x))| .pick c a b=>tY o (un g (S.get C c)) (un (g&&mB (un g (S.get C c))) (S.get C a)) (un (g&& !mB (un g (S.get C c))) (S.get C b))| .alloc t=>sy C f S o t| .box t x=>p6 C f S o t (un g (S.get C x))| .build t parts=>tS C f o t (parts.toList.map fun p=>(p.1,un g (S.get C p.2)))| .buildSlice t len parts=>p7 C f S o t len (parts.toList.map fun p=>(p.1,un g (S.get C p.2)))| .load t a=>lB C S o t (un g (S.get C a))| .store t a x=>nR C f S g o t a (un g (S.get C a)) (un g (S.get C x))| .nilCheck x=>Bg o (un g (S.get C x))| .binOp op t x y _=>sA C o op t x y (un g (S.get C x)) (un g (S.get C y))| .unOp op _ x=>we C o op (un g (S.get C x))| .convert src dst x=>sC C o src dst (un g (S.get C x))| .makeInterface t x=>tV C o t (un g (S.get C x))| .makeFunc fn first caps=>ret o (.fn fn (first.toList.map fun x=>un g (S.get C x)) (caps.toList.map fun x=>un g (S.get C x)))| .makeSlice t l c=>sD C S o t (un g (S.get C l)) (un g (S.get C c))| .slice t x lo hi mx=>if mx.isSome then none else nQ C S o t (un g (S.get C x)) (lo.map fun y=>ei (un g (S.get C y))) (hi.map fun y=>ei (un g (S.get C y)))| .fieldAddr s x i=>tT C f o s i (un g (S.get C x))| .field s x i=>yJ C o s i (un g (S.get C x))| .indexAddr t x i=>mD C S o t (un g (S.get C x)) (ei (un g (S.get C i)))| .index t x i=>tW C o t (un g (S.get C x)) (ei (un g (S.get C i)))| .extract x i=>yI o (un g (S.get C x)) i| .makeMap t r=>sE C S o t r| .lookup t x k ok=>p8 C S o t (un g (S.get C x)) (un g (S.get C k)) ok| .mapUpdate t x k v=>p9 C S o t (un g (S.get C x)) (un g (S.get C k)) (un g (S.get C v))| .insert t x k v=>p9 C S o t (un g (S.get C x)) (un g (S.get C k)) (un g (S.get C v))| .call c=>(match c.callee with| .builtin .len=>q5 C o c.argTypes (c.args.toList.map fun x=>un g (S.get C x))| .builtin .append=>(lV C S o c.argTypes (c.args.toList.map fun x=>un g (S.get C x))).bind (qb C f o)| .builtin .copy=>v8 C S o c.argTypes (c.args.toList.map fun x=>un g (S.get C x))| .builtin .max=>(match iW (c.args.toList.map fun x=>un g (S.get C x))with|some vs=>lQ o (Fw C.P c.argTypes o.type vs)|none=>none)| .builtin .min=>(match iW (c.args.toList.map fun x=>un g (S.get C x))with|some vs=>lQ o (Fy C.P c.argTypes o.type vs)|none=>none)| .value cN=>(match nq C (un g (S.get C cN))with|some x=>pZ C f call S o x.1 (x.2.1++(c.args.toList.map fun x=>un g (S.get C x))++x.2.2)|none=>match pathOf C cN with|some p=>tX S o p (c.args.toList.map fun x=>un g (S.get C x))|none=>if Ao C cN then(match cN with| .func k=>qY C f call S o k (c.args.toList.map fun x=>un g (S.get C x))|_=>none)else qX C f call S o (un g (S.get C cN)) (c.args.toList.map fun x=>un g (S.get C x)))|_=>none)|_=>none
/-! ## Regions -/
def q9(S:ah)(ops:Array Oper)(o:Oper):Option Bool:=match o.guard with|none=>some true|some (j,want)=>match(ops[j]?).bind (·.dst)with|some d=>(match S.t d with| .val (.bool b)=>some (b==want)| .c8 g (.val (.bool b))=>some (g&&(b==want))| .c8 false _=>some false|_=>none)|none=>none
def zx(o:Oper):bn:=put o (.c8 false .bp) [] []
def tU(C:aF)(f:FuncId)(call:FuncId→List U→Option (U×List U))(S:ah)(ops:Array Oper)(o:Oper):Option bn:=match q9 S ops o with|none=>none|some g=>match o.guard with|none=>bC C f call S true o|some _=>match bC C f call S g o with|some e=>if e.wr.isEmpty then some {e with dA:=e.dA.map fun x=>(x.1, .c8 g x.2)}else if g then some e else some (zx o)|none=>if g then none else some (zx o)
abbrev iI:=Nat×List Id×List Id
def hkey(i:Nat)(e:bn)(l:List iI):List iI:=if e.rd.isEmpty&&e.wr.isEmpty then l else(i,e.rd,e.wr.map (·.1))::l
def lW(C:aF)(f:FuncId)(call:FuncId→List U→Option (U×List U))(ops:Array Oper):Nat→List Oper→ah→Option (ah×List iI)|_,[],S=>some (S,[])|i,o::l,S=>(tU C f call S ops o).bind fun e=>if e.dA.all fun x=>decide (x.1<S.n)then(lW C f call ops (i+1) l (S.app e)).map fun x=>(x.1,hkey i e x.2)else none
def qC(C:aF)(f:FuncId)(o:Oper):List Nat:=o.dst.toList++(match o.op with| .store _ a _=>(wk C f a).toList|_=>[])
def slotsOf(ops:Array Oper)(o:Oper):List Nat:=(o.op.operands.toList.filterMap fun| .tmp t=>some t|_=>none)++(match o.guard with|some (j,_)=>(match(ops[j]?).bind (·.dst)with|some d=>[d]|none=>[])|none=>[])
def AW(C:aF)(f:FuncId)(ops:Array Oper)(oi oj:Oper):Bool:=((qC C f oi).all fun x=> !(slotsOf ops oj).contains x&& !(qC C f oj).contains x)&&((qC C f oj).all fun y=> !(slotsOf ops oi).contains y)
def CF(a s:List Nat):List Nat:=a.foldl (fun s x=>if s.contains x then s else x::s) s
def D8(ops:Array Oper):List (List Nat):=ops.toList.foldl (init:=[]) fun acc o=>acc++[o.after.toList.foldl (init:=[]) fun s e=>if Region.binds .any e then(if s.contains e.on then s else e.on::CF (acc.getD e.on []) s)else s]
def Al(C:aF)(f:FuncId)(id:Nat)(ops:Array Oper):Bool:=
 let b:=D8 ops
 let l:=ops.toList.zipIdx
 Region.noSelect ops&&(l.all fun x=>l.all fun y=>if x.2<y.2 then(b.getD y.2 []).contains x.2||AW C f ops x.1 y.1 else true)&&
 (l.all fun x=>x.1.after.all fun e=> !Region.binds .any e||decide (e.on<x.2))&&(C.hU f id).all fun p=>(b.getD p.2 []).contains p.1
def su(a b:iI):Bool:=(a.2.2.all fun x=> !b.2.1.contains x&& !b.2.2.contains x)&&(b.2.2.all fun x=> !a.2.1.contains x)
def nZ(hU:List (Nat×Nat)):List iI→Bool|[]=>true|x::l=>(l.all fun y=>hU.contains (x.1,y.1)||su x y)&&nZ hU l
def oU(C:aF)(f:FuncId)(call:FuncId→List U→Option (U×List U))(id:Nat)(ops:Array Oper)(draw:Bool)(S:ah):Option ah:=(lW C f call ops 0 ops.toList S).bind fun x=>if draw then(if nZ (C.hU f id) x.2 then some x.1 else none)else some x.1
/-! ## Code -/
def mE:Code→Option Nat| .region id _ _=>some id| .seq a b=>(match mE a with|some i=>some i|none=>mE b)| .cond _ a b=>(match mE a with|some i=>some i|none=>mE b)| .block _ c=>mE c| .loop c=>mE c| .scope c=>mE c|_=>none
def jN(L:Id→Option (Option Rows))(t:Nat→U):List Nat→Option (List U×List Id)|[]=>some ([],[])|s::l=>(pk L 9 (t s)).bind fun x=>(jN L t l).map fun y=>(x.1::y.1,x.2++y.2)
def jv(S:ah)(slots:List Nat):Option (List U):=match jN S.h S.t slots with|some (cj,ids)=>if dQ ids then some cj else none|none=>none
def aO(n:Nat):List Nat→List U→ah
 |s::l,v::vs=>
  let S:=aO n l vs
  {n,t:=ak S.t s (imp [s] v).1,h:=bk S.h (imp [s] v).2}
 |_,_=>{n,t:=fun _=> .bp,h:=fun _=>none}
def p0(keep:Id→Bool)(S:ah)(o:Id):Option ah:=match S.h o with|some (some rows)=>if ef rows then some S else(match dO (lz S.h keep) rows with|some (bh,ids)=>if dQ ids&& !ids.contains o then some ⟨S.n,S.t,bk S.h ((o,some bh)::ids.map fun i=>(i,none))⟩else none|none=>none)|_=>none
def jC(keep:Id→Bool):List Id→ah→Option ah|[],S=>some S|o::l,S=>(p0 keep S o).bind (jC keep l)
def qp(S:ah)(s:Nat):ah:=match S.t s,S.h [s,s]with| .cu,none=>⟨S.n,ak S.t s (.rs [s,s] 0 0),ak S.h [s,s] (some (some []))⟩|_,_=>S
def ki:List Nat→ah→ah|[],S=>S|s::l,S=>ki l (qp S s)
def s7(l:List (Id×Id))(slots:List Nat)(S:ah):Option ah:=if dQ (l.map (·.1))&&dQ (l.map (·.2))&&l.all (fun x=> !jI x.2||x.1==x.2)then(oY S.h l l).map fun hl=>⟨S.n,ny l S.t slots,jq hl⟩else none
def CI(S:ah)(slots:List Nat)(l:List (Id×Id)):Option ah:=(jC (s3 l) (l.map (·.1)) S).bind (s7 l slots)
def norm(S:ah)(slots:List Nat):Option ah:=CI (ki slots S) slots (names (ki slots S) slots)
def dn(o:Option (Bool×List Nat))(S:ah):Option ah:=match o with|none=>some S|some (true,l)=>norm S l|some (false,l)=>(jv S l).map (aO S.n l)
def hG(C:aF)(f:FuncId)(b:Code):Option (Bool×List Nat):=match mE b with|some i=>C.Ep f i|none=>none
def nU(S:ah)(s:Nat):Option ah:=match pk S.h 9 (S.t s)with|some (v,ids)=>if dQ ids then some ⟨S.n,ak S.t s (dJ v),bk S.h (ids.map fun i=>(i,none))⟩else none|none=>none
def nk(S:ah)(s:Nat):Option ah:=match S.t s with| .mp id 0 0=>(match S.h id with|some (some [cells])=>if ew cells then some ⟨S.n,ak S.t s (.aI cells),ak S.h id (some none)⟩else none|_=>none)| .rs _ _ _=>nU S s| .cu=>nU S s| .mr _=>nU S s| .sl _=>some S|_=>none
def kO:List Nat→ah→Option ah|[],S=>some S|s::l,S=>(nk S s).bind (kO l)
def qv(p:Nat)(S:ah)(s:Nat):Option ah:=match S.t s with| .mp id _ _=>(match S.h id with|some (some [r])=>if(bM [p,s] 0 r).2.isEmpty then some S else if s<S.n∧fresh S.h (bM [p,s] 0 r).2=true then some ⟨S.n,S.t,bk S.h ((id,some [(bM [p,s] 0 r).1])::(bM [p,s] 0 r).2)⟩else none|_=>none)|_=>none
def mg(p:Nat):List Nat→ah→Option ah|[],S=>some S|s::l,S=>(qv p S s).bind (mg p l)
def oQ(C:aF)(f:FuncId)(id:Nat)(S:ah):Option ah:=(mg (1000+id) (C.iT f id) S).bind fun bE=>(kO (C.j6 f id) bE).bind (dn (C.jh f id))
abbrev mV:=(α:Type)→(α→Option (Exit×ah))→(ah→Option α)→α→Option (Exit×ah)
def iA{α:Type}(g:α→Option (Exit×ah))(rn:ah→Option α):Nat→α→Option (Exit×ah)|0,_=>none|n+1,cj=>(g cj).bind fun x=>match x.1 with| .normal=>(rn x.2).bind (iA g rn n)|_=>some x
/-! A range over a function: each round begins with the slots of the loop's entry, and with what has been yielded. -/
def tf(t:Nat→U):List (Nat×U)→Nat→U|[]=>t|(p,v)::l=>tf (ak t p v) l
def Dd(S:ah)(ps:List Nat)(y:List U):Option ah:=if ps.length=y.length∧(ps.all fun p=>decide (p<S.n))=true then some ⟨S.n,tf S.t (ps.zip y),S.h⟩else none
def qa(g:ah→Option (Exit×ah))(rn:ah→Option ah)(ps:List Nat):List (List U)→ah→Option (Exit×ah)|[],S=>some (.normal,S)|y::ys,S=>(Dd S ps y).bind fun bE=>(g bE).bind fun x=>(rn x.2).bind fun cU=>match x.1 with| .normal=>qa g rn ps ys cU| .ret=>some (.ret,cU)| .exit i=>some (.exit i,cU)|_=>none
def Sw(assign body:Code):Option Nat:=match mE assign with|some i=>some i|none=>mE body
def xC(C:aF)(f:FuncId)(assign body:Code):List Nat:=match Sw assign body with|some i=>C.live f i|none=>[]
def xB(C:aF)(f:FuncId)(assign body:Code):Option (Bool×List Nat):=some (match Sw assign body with|some i=>C.shr f i|none=>false,xC C f assign body)
def zZ(C:aF)(x:U):Option (List (List U)):=match x with
 | .fn (.func k) [] caps=>if ew caps then(C.iter k).bind (· caps)else none
 |_=>none
def cq(C:aF)(f:FuncId)(call:FuncId→List U→Option (U×List U))(bR:mV):Code→ah→Option (Exit×ah)
 | .skip,S=>some (.normal,S)
 | .label _,S=>some (.normal,S)
 | .exit id,S=>some (.exit id,S)
 | .ret,S=>some (.ret,S)
 | .region id ops draw,S=>((kO (C.lE f id) S).bind fun fH=>(oU C f call id ops draw fH).bind (oQ C f id)).map fun S'=>(.normal,S')
 | .seq a b,S=>(cq C f call bR a S).bind fun x=>match x.1 with
  | .normal=>(dn (hG C f b) x.2).bind (cq C f call bR b)
  |_=>some x
 | .cond c a b,S=>match un true (S.get C c)with
  | .val (.bool t)=>if t then cq C f call bR a S else cq C f call bR b S
  |_=>none
 | .block id c,S=>(cq C f call bR c S).bind fun x=>match(match x.1 with| .exit i=>if i=id then .normal else .exit i|e=>e:Exit)with
  | .normal=>(dn (C.oP f id) x.2).map fun S'=>(.normal,S')
  |e=>some (e,x.2)
 | .loop c,S=>
  let slots:=match mE c with|some i=>C.live f i|none=>[]
  if(match mE c with|some i=>C.shr f i|none=>false)then
   (norm S slots).bind fun bE=>bR ah (fun S'=>cq C f call bR c S') (fun S'=>norm S' slots) bE
  else(jv S slots).bind fun cj=>bR (List U) (fun cj=>cq C f call bR c (aO S.n slots cj)) (fun S'=>jv S' slots) cj
 | .rangeFunc g ps assign body,S=>(zZ C (un true (S.get C g))).bind fun ys=>(dn (xB C f assign body) S).bind
   (qa (fun bE=>(cq C f call bR assign bE).bind fun x=>match x.1 with| .normal=>cq C f call bR body x.2|_=>none) (dn (xB C f assign body)) ps.toList ys)
 |_,_=>none
/-! ## Functions -/
def uZ(C:aF)(S:ah):ResultVar→Option (U×List Id)| .tmp t=>pk S.h 9 (un true (S.t t))| .cell a ty=>match kV C ty,gQ C ty,un true (S.t a)with|some b,some n, .aI cells=>if n≤cells.length then((iR b (cells.take n)).bind (pk S.h 9))else none|some b,some n, .mp id row off=>(match S.h id with|some (some rows)=>(match rows[row]? with|some r=>if off+n≤r.length then((iR b ((r.drop off).take n)).bind (pk S.h 9)).map fun x=>(x.1,id::x.2)else none|none=>none)|_=>none)|_,_,_=>none
def kH(C:aF)(S:ah):List ResultVar→Option (List U×List Id)|[]=>some ([],[])|r::l=>(uZ C S r).bind fun x=>(kH C S l).map fun y=>(x.1::y.1,x.2++y.2)
def finish(C:aF)(fn:Func)(ct:List Nat)(_args:List U)(S:ah):Option (U×List U):=match kH C S fn.results.toList,jN S.h S.t ct with|some (rs,i1),some (outs,i2)=>if dQ (i1++i2)then some (match rs with|[r]=>r|_=> .aT rs,outs)else none|_,_=>none
/-! At the end of a call whose objects keep their places. -/
def mC(L:Id→Option (Option Rows))(keep:Id→Bool):U→Option (U×List Id)| .agg cs=>(dN (gL L keep) cs).map fun x=>(.agg x.1,x.2)|a=>gL L keep a
def u0(C:aF)(S:ah)(p:U→Option (U×List Id)):ResultVar→Option (U×List Id)| .tmp t=>p (un true (S.t t))| .cell a ty=>match kV C ty,gQ C ty,un true (S.t a)with|some b,some n, .aI cells=>if n≤cells.length then((iR b (cells.take n)).bind p)else none|some b,some n, .mp id row off=>(match S.h id with|some (some rows)=>(match rows[row]? with|some r=>if off+n≤r.length then((iR b ((r.drop off).take n)).bind p).map fun x=>(x.1,id::x.2)else none|none=>none)|_=>none)|_,_,_=>none
def lP(C:aF)(S:ah)(p:U→Option (U×List Id)):List ResultVar→Option (List U×List Id)|[]=>some ([],[])|r::l=>(u0 C S p r).bind fun x=>(lP C S p l).map fun y=>(x.1::y.1,x.2++y.2)
def mb:Option (Option Rows)→Bool|some (some _)=>true|_=>false
def k5(L:Id→Option (Option Rows))(keep:Id→Bool):List Id→Option (List U×List Id)|[]=>some ([],[])|k::r=>match L k with|some (some rows)=>(nh L keep rows).bind fun x=>(k5 L keep r).map fun y=>(.bf k x.1::y.1,x.2++y.2)|_=>(k5 L keep r).map fun y=>(.bp::y.1,y.2)
def n7(ids:List Id)(S:ah):ah:=⟨S.n,S.t,bk S.h (ids.map fun i=>(i,none))⟩
def sG(C:aF)(fn:Func)(ks:List Id)(S:ah):Option (U×List U):=
 let al:=ks.filter fun k=>mb (S.h k)
 let keep:Id→Bool:=fun i=>al.contains i
 match lP C S (mC S.h keep) fn.results.toList,k5 S.h keep ks with
 |some (rs,i1),some (outs,i2)=>if dQ (al++(i1++i2))then some (match rs with|[r]=>r|_=> .aT rs,outs)else none
 |_,_=>none
def ji(C:aF)(f:FuncId)(call:FuncId→List U→Option (U×List U))(bR:mV):Code→ah→Option (Exit×ah)| .seq (.region id ops draw) b,S=>if C.Et f id then match ops.toList,draw with|[o0,o1],false=>(match o1.op,o1.guard,o1.dst with| .defer ⟨.value (.tmp d),args,_⟩,none,none=>if args.isEmpty then(lW C f call ops 0 [o0] S).bind fun x=>match x.1.t d with| .fn (.func k) _ _=>if C.nw k then ji C f call bR b x.1 else none|_=>none else none|_,_,_=>none)|_,_=>none else(cq C f call bR (.region id ops draw) S).bind fun x=>(match x.1 with| .normal=>(dn (hG C f b) x.2).bind (ji C f call bR b)|_=>some x)| .seq a b,S=>(cq C f call bR a S).bind fun x=>(match x.1 with| .normal=>(dn (hG C f b) x.2).bind (ji C f call bR b)|_=>some x)|c,S=>cq C f call bR c S
def oR(C:aF)(f:FuncId):Code→Bool| .seq (.region id _ _) b=>C.Et f id||oR C f b| .seq _ b=>oR C f b|_=>false
def uN:List U→Option (List (Id×Rows))|[]=>some []| .bf i rows::l=>(uN l).map ((i,rows)::·)|_::_=>none
def xJ(n:Nat)(ps:List U)(hl:List (Id×Rows)):ah:=⟨n,fun t=>ps.getD t .bp,jq hl⟩
def Bf(C:aF)(call:FuncId→List U→Option (U×List U))(bR:mV)(f:FuncId)(fn:Func)(c:Code):List U→Option (U×List U)| .aT obs::ps=>(match uN obs with|some hl=>if ps.length≤fn.ntmps∧fn.ntmps≤iD then((mg iD (C.iT f iD) (xJ fn.ntmps ps hl)).bind (if oR C f c then ji C f call bR c else cq C f call bR c)).bind fun x=>match x.1 with| .normal=>sG C fn (hl.map (·.1)) (n7 (C.q3 f) x.2)| .ret=>sG C fn (hl.map (·.1)) (n7 (C.q3 f) x.2)|_=>none else none|none=>none)|_=>none
def q4(C:aF)(call:FuncId→List U→Option (U×List U))(bR:mV)(f:FuncId)(args:List U):Option (U×List U):=match C.ext f with|some g=>g args|none=>match C.P.funcs[f]? with|some fn=>(match fn.body with|some c=>if C.gU f then Bf C call bR f fn c args else if args.length≤fn.ntmps then(cq C f call bR c (aO fn.ntmps (List.range args.length) args)).bind fun x=>match x.1 with| .normal=>finish C fn (C.ct f) args x.2| .ret=>finish C fn (C.ct f) args x.2|_=>none else none|none=>none)|none=>none
end Go.Ab
