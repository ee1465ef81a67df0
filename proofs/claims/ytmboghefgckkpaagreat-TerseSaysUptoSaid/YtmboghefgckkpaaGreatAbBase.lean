import Derived.Deep.Quiet
namespace Go.Ab
open Go
abbrev Id:=List Nat
inductive aa where|val(v:Value)|sl(rows:List (List aa))|ax(cells:List aa)|cE|rs(id:Id)(off len:Nat)|mp(id:Id)(row off:Nat)|fn(f:Fn)(first caps:List aa)|agg(cells:List aa)|bG(vs:List aa)|own(rows:List (List aa))(len:Nat)|aL(cells:List aa)|dM(g:Bool)(x:aa)|nn|mr(id:Id)|eO(rows:List (List aa))|im(rows:List (List aa))|cz(id:List Nat)(rows:List (List aa))|Cz(v:Value)|bH deriving Inhabited
abbrev Rows:=List (List aa)
structure an where
 n:Nat
 t:Nat→aa
 h:Id→Option (Option Rows)
structure bE where
 ek:List (Nat×aa)
 rd:List Id
 wr:List (Id×Option Rows)
def aC{α β:Type}[DecidableEq α](f:α→β)(k:α)(v:β):α→β:=fun j=>if j=k then v else f j
def dF(t:Nat→aa):List (Nat×aa)→Nat→aa|[]=>t|(i,v)::l=>aC (dF t l) i v
def bD(h:Id→Option (Option Rows)):List (Id×Option Rows)→Id→Option (Option Rows)|[]=>h|(i,r)::l=>aC (bD h l) i (some r)
def an.app(s:an)(e:bE):an:={n:=s.n,t:=dF s.t e.ek,h:=bD s.h e.wr}
def e4:Value→Bool| .bool _| .int _ _| .float _ _| .string _| .pointer _| .nilFunc| .nilIface| .map none| .iface _ (.int _ _)| .iface _ (.string _)| .iface _ (.bool _)=>true|_=>false
def dV{α:Type}(P:Program):Sem α→Option α| .pure a=>some a| .program k=>dV P (k P)|_=>none
structure aU where
 P:Program
 cP:Nat→Option (List aa)
 ext:FuncId→Option (List aa→Option (aa×List aa))
 cK:FuncId→List Nat
 zZ:FuncId→List Nat:=fun _=>[]
 shr:FuncId→Nat→Bool:=fun _ _=>false
 e7:FuncId→List Nat
 live:FuncId→Nat→List Nat
 iJ:FuncId→Nat→List (Nat×Nat)
 j5:FuncId→Nat→Option (Bool×List Nat):=fun _ _=>none
 qS:FuncId→Nat→Option (Bool×List Nat):=fun _ _=>none
 I6:FuncId→Nat→Option (Bool×List Nat):=fun _ _=>none
 path:FuncId→Option (Nat×Nat):=fun _=>none
 wq:FuncId→Nat→List Nat:=fun _ _=>[]
 iter:FuncId→Option (List aa→Option (List (List aa))):=fun _=>none
 look:FuncId→Bool:=fun _=>false
 k7:FuncId→Nat→List Nat:=fun _ _=>[]
 dy:FuncId→Bool:=fun _=>false
 ko:FuncId→Nat→List Nat:=fun _ _=>[]
 oJ:FuncId→Nat→List Nat:=fun _ _=>[]
 wJ:FuncId→List Id:=fun _=>[]
 arL:FuncId→Nat→Bool:=fun _ _=>false
def an.get(C:aU)(s:an):Operand→aa| .tmp t=>s.t t| .const v=>if e4 v then .val v else(match v with| .slice none 0 0=> .cE|_=> .bH)| .global g=>(match C.cP g with|some cs=> .ax cs|none=> .bH)| .func f=> .fn (.func f) [] []
def un(g:Bool):aa→aa| .dM g' x=>if !g||g' then x else .bH|x=>x
def kD:List aa→Option (List Value)|[]=>some []| .val v::l=>(kD l).map (v::·)|_::_=>none
def o9:aa→Option Value| .val v=>some v| .agg cs=>(kD cs).map fun vs=> .agg ⟨vs⟩|_=>none
def OC(v:Value):Option aa:=if e4 v then some (.val v)else match v with| .slice none 0 0=>some .cE|_=>none
def Cv:List Value→Option (List aa)|[]=>some []|v::l=>match OC v with|some a=>(Cv l).map (a::·)|none=>none
def A0(C:aU)(t:TypeId):Option (List aa):=match(C.P.info? t).bind (·.zero)with|some v=>Cv v.cells.toList|none=>none
def OB(v:Value):Option aa:=if e4 v then some (.val v)else match v with| .slice none 0 0=>some (.own [] 0)|_=>none
def z4:List Value→Option (List aa)|[]=>some []|v::l=>match OB v with|some a=>(z4 l).map (a::·)|none=>none
def A1(C:aU)(t:TypeId):Option (List aa):=match(C.P.info? t).bind (·.zero)with|some v=>z4 v.cells.toList|none=>none
def iy(C:aU)(t:TypeId):Option Nat:=(C.P.info? t).map (·.size)
def lP(C:aU)(t:TypeId):Option Bool:=(C.P.underlying t).map fun| .struct _=>true| .array _ _=>true|_=>false
def nz:aa→aa| .cE=> .sl []|x=>x
def lW(l:List aa):List aa:=l.map nz
def aa.cell:aa→Bool| .val _| .sl _| .ax _| .cE| .rs _ _ _| .mp _ _ _| .fn _ _ _| .nn| .mr _| .im _=>true|_=>false
def pS(J6:Bool):aa→Option (List aa)| .agg cs=>if J6&&cs.all aa.cell then some cs else none|x=>if !J6&&x.cell then some [x]else none
def kS(J6:Bool)(cs:List aa):Option aa:=if J6 then some (.agg cs)else match cs with|[c]=>some c|_=>none
def bZ(p:Id):Nat→List aa→List aa×List (Id×Option Rows)|_,[]=>([],[])|j,c::cs=>match c with| .own rows len=>(.rs (j::p) 0 len::(bZ p (j+1) cs).1,(j::p,some rows)::(bZ p (j+1) cs).2)| .aL cells=>(.mp (j::p) 0 0::(bZ p (j+1) cs).1,(j::p,some [cells])::(bZ p (j+1) cs).2)| .eO rows=>(.mr (j::p)::(bZ p (j+1) cs).1,(j::p,some rows)::(bZ p (j+1) cs).2)| .agg _=>(.bH::(bZ p (j+1) cs).1,(bZ p (j+1) cs).2)| .bG _=>(.bH::(bZ p (j+1) cs).1,(bZ p (j+1) cs).2)|c=>(c::(bZ p (j+1) cs).1,(bZ p (j+1) cs).2)
def fJ(p:Id):Nat→List aa→List aa×List (Id×Option Rows)|_,[]=>([],[])|j,c::cs=>match c with| .own rows len=>(.rs (j::p) 0 len::(fJ p (j+1) cs).1,(j::p,some rows)::(fJ p (j+1) cs).2)| .aL cells=>(.mp (j::p) 0 0::(fJ p (j+1) cs).1,(j::p,some [cells])::(fJ p (j+1) cs).2)| .eO rows=>(.mr (j::p)::(fJ p (j+1) cs).1,(j::p,some rows)::(fJ p (j+1) cs).2)| .agg l=>(.agg (bZ (j::p) 0 l).1::(fJ p (j+1) cs).1,(bZ (j::p) 0 l).2++(fJ p (j+1) cs).2)| .bG _=>(.bH::(fJ p (j+1) cs).1,(fJ p (j+1) cs).2)|c=>(c::(fJ p (j+1) cs).1,(fJ p (j+1) cs).2)
def imp(p:Id):aa→aa×List (Id×Option Rows)| .own rows len=>(.rs p 0 len,[(p,some rows)])| .aL cells=>(.mp p 0 0,(p,some [(bZ p 0 cells).1])::(bZ p 0 cells).2)| .eO rows=>(.mr p,[(p,some rows)])| .agg l=>(.agg (bZ p 0 l).1,(bZ p 0 l).2)| .bG l=>(.bG (fJ p 0 l).1,(fJ p 0 l).2)|x=>(x,[])
mutual def flat:aa→Bool| .rs _ _ _| .mp _ _ _| .dM _ _| .cE| .mr _=>false| .own rows _=>eX rows| .aL cells=>de cells| .agg cells=>de cells| .bG vs=>de vs| .fn _ first caps=>de first&&de caps|_=>true def de:List aa→Bool|[]=>true|c::cs=>flat c&&de cs def eX:List (List aa)→Bool|[]=>true|r::rs=>de r&&eX rs end
mutual def fU:aa→Bool| .rs _ _ _| .mp _ _ _| .dM _ _| .cE| .own _ _| .aL _| .mr _| .eO _| .bH=>false| .agg cells=>eJ cells| .bG vs=>eJ vs| .fn _ first caps=>eJ first&&eJ caps|_=>true def eJ:List aa→Bool|[]=>true|c::cs=>fU c&&eJ cs end
def jy(rows:Rows):Bool:=rows.all eJ
def ew(p:aa→Option (aa×List Id)):List aa→Option (List aa×List Id)|[]=>some ([],[])|c::cs=>(p c).bind fun x=>(ew p cs).map fun y=>(x.1::y.1,x.2++y.2)
def eB(p:List aa→Option (List aa×List Id)):Rows→Option (Rows×List Id)|[]=>some ([],[])|r::rs=>(p r).bind fun x=>(eB p rs).map fun y=>(x.1::y.1,x.2++y.2)
def iF(p:aa→Option (aa×List Id))(cs:List aa):Option (List aa×List Id):=if de cs then some (cs,[])else ew p cs
def mP(p:aa→Option (aa×List Id))(rs:Rows):Option (Rows×List Id):=if eX rs then some (rs,[])else eB (iF p) rs
def pk(L:Id→Option (Option Rows)):Nat→aa→Option (aa×List Id)|0,_=>none|n+1,a=>match a with| .rs id off len=>(match L id with|some (some rs)=>if off=0∧len≤rs.length then(mP (pk L n) rs).map fun x=>(.own x.1 len,id::x.2)else none|_=>none)| .mp id row off=>(match L id with|some (some [cs])=>if row=0∧off=0 then(iF (pk L n) cs).map fun x=>(.aL x.1,id::x.2)else none|_=>none)| .mr id=>(match L id with|some (some rs)=>some (.eO rs,[id])|_=>none)| .cE=>some (.own [] 0,[])| .agg cs=>(iF (pk L n) cs).map fun x=>(.agg x.1,x.2)| .bG cs=>(iF (pk L n) cs).map fun x=>(.bG x.1,x.2)| .fn f a b=>if eJ a&&eJ b then some (.fn f a b,[])else none| .dM _ _=>some (.bH,[])| .own rs len=>if eX rs then some (.own rs len,[])else none| .aL cs=>if de cs then some (.aL cs,[])else none|a=>some (a,[])
def gk(p:aa→Option (aa×List Id))(cs:List aa):Option (List aa×List Id):=if eJ cs then some (cs,[])else ew p cs
def mc(p:aa→Option (aa×List Id))(rs:Rows):Option (Rows×List Id):=if jy rs then some (rs,[])else eB (gk p) rs
def b8(L:Id→Option (Option Rows)):Nat→aa→Option (aa×List Id)|0,_=>none|n+1,a=>match a with| .rs id off len=>(match L id with|some (some rs)=>if off+len≤rs.length then(mc (b8 L n) ((rs.drop off).take len)).map fun x=>(.sl x.1,id::x.2)else none|_=>none)| .mp id row off=>(match L id with|some (some rs)=>(match rs[row]? with|some r=>if off≤r.length then(gk (b8 L n) (r.drop off)).map fun x=>(.ax x.1,id::x.2)else none|none=>none)|_=>none)| .mr id=>(match L id with|some (some rs)=>some (.im rs,[id])|_=>none)| .eO rs=>some (.im rs,[])| .own rs len=>(mc (b8 L n) (rs.take len)).map fun x=>(.sl x.1,x.2)| .aL cs=>(gk (b8 L n) cs).map fun x=>(.ax x.1,x.2)| .cE=>some (.sl [],[])| .agg cs=>(gk (b8 L n) cs).map fun x=>(.agg x.1,x.2)| .bG cs=>(gk (b8 L n) cs).map fun x=>(.bG x.1,x.2)| .fn f a b=>(gk (b8 L n) a).bind fun x=>(gk (b8 L n) b).map fun y=>(.fn f x.1 y.1,x.2++y.2)| .dM _ _=>some (.bH,[])|a=>some (a,[])
def tn(L:Id→Option (Option Rows))(as:List aa):Option (List aa×List Id):=ew (b8 L 9) as
/-! ## One operation -/
def put(o:Oper)(v:aa)(rd:List Id)(wr:List (Id×Option Rows)):bE:={ek:=match o.dst with|some d=>[(d,v)]|none=>[],rd,wr}
def fresh(L:Id→Option (Option Rows))(l:List (Id×Option Rows)):Bool:=l.all fun x=>(L x.1).isNone
def GP(C:aU):List Field→Option (List (Nat×Nat×Bool))|[]=>some []|f::l=>match iy C f.type,lP C f.type,GP C l with|some n,some b,some r=>some ((f.offset,n,b)::r)|_,_,_=>none
def OO(C:aU)(t:TypeId):Option (List (Nat×Nat×Bool)):=match C.P.underlying t with|some (.struct fields)=>GP C fields.toList|_=>none
def yQ(place:List (Nat×Nat×Bool))(cells:List aa):List (Nat×aa)→Option (List aa)|[]=>some cells|(i,v)::rest=>match place[i]? with|none=>none|some (off,n,b)=>match pS b v with|none=>none|some cs=>if cs.length=n∧off+n≤cells.length then yQ place (cells.take off++cs++cells.drop (off+n)) rest else none
def vm(n:Nat)(b:Bool)(rows:Rows):List (Nat×aa)→Option Rows|[]=>some rows|(i,v)::rest=>match pS b v with|none=>none|some cs=>if cs.length=n∧i<rows.length then vm n b (rows.set i cs) rest else none
def fl:aa→Option Int| .val (.int _ n)=>some n|_=>none
def wR(n:Int):aa:= .val (.int .i64 n)
def oZ:Nat:=4294967296
def rowsOf(L:Id→Option (Option Rows)):aa→Option (Rows×List Id)| .sl rows=>some (rows,[])| .cE=>some ([],[])| .rs id off len=>(match L id with|some (some rs)=>if off+len≤rs.length then some ((rs.drop off).take len,[id])else none|_=>none)|_=>none
def rJ(rows:Rows):Bool:=rows.all (·.all aa.cell)
def vg(a b:List Id):Bool:=a.all fun x=> !b.contains x
def eR:List Id→Bool|[]=>true|x::l=> !l.contains x&&eR l
mutual def mine:aa→Bool| .val _| .bH| .cE| .nn| .eO _=>true| .own rows _=>Kj rows| .aL cells=>nx cells| .agg cells=>nx cells| .bG vs=>nx vs|_=>false def nx:List aa→Bool|[]=>true|c::cs=>mine c&&nx cs def Kj:List (List aa)→Bool|[]=>true|r::rs=>nx r&&Kj rs end
mutual def eC:aa→aa| .own rows len=> .sl ((kO rows).take len)| .aL cells=> .ax (kN cells)| .eO rows=> .im rows| .agg cells=> .agg (kN cells)| .bG vs=> .bG (kN vs)|x=>x def kN:List aa→List aa|[]=>[]|c::cs=>eC c::kN cs def kO:List (List aa)→List (List aa)|[]=>[]|r::rs=>kN r::kO rs end
def fc(C:aU)(f:FuncId)(d:Option Nat):Bool:=match d with|some d=>(C.e7 f).contains d|none=>false
def Cw:List aa→Bool|[.val _]=>true|[.ax _]=>true|_=>false
def xy(S:an)(o:Oper)(as:List aa):Option bE:=match as with|[.val (.int .i64 i), .mp id 0 0, .ax cells]=>(match cells[4]?,S.h id with|some (aa.sl ks),some (some [[.rs g7 0 n]])=>(match S.h g7,ks[i.toNat]? with|some (some rows),some [.val (.int .i64 c)]=>(match rows[c.toNat]? with|some [x]=>if 0≤i∧0≤c∧n=rows.length∧rows.all Cw=true∧fU x=true∧o.dst.isSome=true then some (put o x [id,g7] [])else none|_=>none)|_,_=>none)|_,_=>none)|_=>none
def r7(C:aU)(f:FuncId)(call:FuncId→List aa→Option (aa×List aa))(S:an)(o:Oper)(fv:aa)(args:List aa):Option bE:=match fv with| .fn (.func k) first caps=>if C.look k then xy S o (first++args++caps)else(match tn S.h (first++args++caps),o.dst with|some (as,seen),some d=>(match call k as with|some (r,[])=>if !seen.isEmpty&& !mine r then none else if fresh S.h (imp [d] (if fc C f o.dst then eC r else r)).2 then some (put o (imp [d] (if fc C f o.dst then eC r else r)).1 seen (imp [d] (if fc C f o.dst then eC r else r)).2)else none|_=>none)|_,_=>none)|_=>none
def AD(C:aU):Operand→Bool| .func k=> !(C.zZ k).isEmpty|_=>false
def ji(L:Id→Option (Option Rows)):List Nat→List aa→Option (List aa×List Id×List Id×List Id)|_,[]=>some ([],[],[],[])|ms,a::l=>(ji L ms.tail l).bind fun y=>match ms.headD 0 with|1=>(pk L 9 a).map fun x=>(x.1::y.1,y.2.1,x.2++y.2.2.1,y.2.2.2)|2=>(pk L 9 a).map fun x=>(eC x.1::y.1,y.2.1,y.2.2.1,x.2++y.2.2.2)|_=>(b8 L 9 a).map fun x=>(x.1::y.1,x.2++y.2.1,y.2.2.1,y.2.2.2)
def jT(L:Id→Option (Option Rows)):aa→aa→Option (List (Id×Option Rows))| .mp id 0 0, .aL cs=>(match L id with|some (some [old])=>if cs.length=old.length then some [(id,some [cs])]else none|_=>none)| .rs id 0 n, .own rows len=>(match L id with|some (some (o1::os))=>if len=n∧rows.length=n∧n=(o1::os).length∧rows.all (·.length==o1.length)then some [(id,some rows)]else none|some (some [])=>if len=0∧rows.length=0∧n=0 then some [(id,some [])]else none|_=>none)| .mr id, .eO rows=>(match L id with|some (some _)=>some [(id,some rows)]|_=>none)| .rs _ _ _,_=>none| .mp _ _ _,_=>none| .mr _,_=>none| .agg _,_=>none|_,_=>some []
def ku(L:Id→Option (Option Rows)):List aa→List aa→Option (List (Id×Option Rows))|[],[]=>some []|a::as,b::bs=>(match jT L a b,ku L as bs with|some x,some y=>some (x++y)|_,_=>none)|_,_=>none
def uA(L:Id→Option (Option Rows)):aa→aa→Option (List (Id×Option Rows))| .agg as, .agg bs=>ku L as bs|a,b=>jT L a b
def ir(L:Id→Option (Option Rows))(args:List aa):List Nat→List aa→Option (List (Id×Option Rows))|[],[]=>some []|j::l,b::bs=>(match args[j]?,ir L args l bs with|some a,some y=>(match uA L a b with|some x=>some (x++y)|none=>none)|_,_=>none)|_,_=>none
def tr(C:aU)(f:FuncId)(call:FuncId→List aa→Option (aa×List aa))(S:an)(o:Oper)(k:FuncId)(args:List aa):Option bE:=match ji S.h (C.zZ k) args,o.dst with|some (as,seen,tk,dS),some d=>(match call k as with|some (r,outs)=>(match ir S.h args (C.cK k) outs with|some back=>if eR (tk++dS)&&vg seen (tk++dS)&&(seen.isEmpty||mine r&&outs.all mine)&&eR (back.map (·.1))&&(back.all fun x=>tk.contains x.1)&&fresh S.h (imp [d] (if fc C f o.dst then eC r else r)).2 then some (put o (imp [d] (if fc C f o.dst then eC r else r)).1 seen ((imp [d] (if fc C f o.dst then eC r else r)).2++(back++(tk++dS).map fun i=>(i,none))))else none|none=>none)|none=>none)|_,_=>none
def Ip(i:TypeInfo):Bool:=match i.zero with|some z=>z.cells.size==i.size|none=>false
def m3(S:an)(o:Oper)(d m:Nat)(x:aa)(xs ys:Rows)(i1 i2:List Id):Option bE:=match x with| .rs id off _=>(match S.h id with|some (some rows)=>if rows.all (·.length==m)&&decide (off=0)&&(!(xs++ys).isEmpty||rows.isEmpty)then some (put o (.rs [d] 0 (xs.length+ys.length)) (i1++i2) [(id,none),([d],some (xs++ys))])else none|_=>none)| .cE=>some (put o (.rs [d] 0 (xs.length+ys.length)) (i1++i2) [([d],some (xs++ys))])|_=>none
def Bj(C:aU)(S:an)(o:Oper)(t:TypeId)(x y:aa):Option bE:=match C.P.underlying t,o.dst with|some (.slice e),some d=>(match C.P.info? e,rowsOf S.h x,rowsOf S.h y with|some i,some (xs,i1),some (ys,i2)=>if ys.all (·.length==i.size)&&decide (0<i.size)&&decide (i.bytes≤4096)&&Ip i&&decide (xs.length+ys.length≤oZ)&&rJ ys&&(S.h [d]).isNone then m3 S o d i.size x xs ys i1 i2 else none|_,_,_=>none)|_,_=>none
def Bk(C:aU)(S:an)(o:Oper)(t:TypeId)(x y:aa):Option bE:=match C.P.underlying t,o.dst,fl y with|some (.slice e),some d,some n=>(match C.P.info? e,A1 C e,rowsOf S.h x with|some i,some z,some (xs,i1)=>if decide (0≤n∧n≤4294967296)&&decide (z.length=i.size)&&decide (0<i.size)&&decide (i.bytes≤4096)&&Ip i&&decide (xs.length+n.toNat≤oZ)&&z.all aa.cell&&(S.h [d]).isNone then m3 S o d i.size x xs (List.replicate n.toNat z) i1 []else none|_,_,_=>none)|_,_,_=>none
def Gw:aa→Option Nat| .sl rows=>some rows.length| .rs _ _ len=>some len| .cE=>some 0|_=>none
def Gv:TypeDesc→aa→Option Nat| .string, .val (.string s)=>some s.size| .slice _,x=>Gw x|_,_=>none
def ret(o:Oper)(v:aa):Option bE:=some (put o v [] [])
def mR(o:Oper):Option Value→Option bE|some v=>if e4 v then ret o (.val v)else none|none=>none
def wQ(o:Oper)(c a b:aa):Option bE:=match c with| .val (.bool h)=>(match a,b with| .val (.bool x), .val (.bool y)=>ret o (.val (.bool (if h then x else y)))|jC,uM=>ret o (if h then jC else uM))|_=>none
def PW(l:List Nat):Nat→List aa→List aa|_,[]=>[]|j,c::cs=>(match c with| .own [] 0=>if l.contains j then .sl []else c| .cE=>if l.contains j then .sl []else c|c=>c)::PW l (j+1) cs
def wu(l:List Nat)(cs:List aa):List aa:=match l with|[]=>cs|l=>PW l 0 cs
def Iq(C:aU)(f:FuncId)(o:Oper)(cs:List aa):List aa:=match o.dst with|some d=>wu (C.wq f d) cs|none=>cs
def nK:aa→Bool| .val (.bool h)=>h|_=>false
def sg(C:aU)(f:FuncId)(S:an)(o:Oper)(t:TypeId):Option bE:=match A1 C t,o.dst with|some cs,some d=>if(S.h [d]).isNone then some (put o (.mp [d] 0 0) [] [([d],some [wu (C.wq f d) cs])])else none|_,_=>none
def si(C:aU)(f:FuncId)(S:an)(o:Oper)(t:TypeId)(x:aa):Option bE:=match lP C t,o.dst with|some b,some d=>(match pS b x with|some cs=>if fc C f o.dst&&eJ (lW cs)then ret o (.ax (lW cs))else if(S.h [d]).isNone then some (put o (.mp [d] 0 0) [] [([d],some [cs])])else none|none=>none)|_,_=>none
def wN(C:aU)(f:FuncId)(o:Oper)(t:TypeId)(parts:List (Nat×aa)):Option bE:=match A0 C t,OO C t with|some z,some pl=>(match yQ pl (Iq C f o z) parts with|some cs=>ret o (.agg cs)|none=>none)|_,_=>none
def vj(C:aU)(f:FuncId)(S:an)(o:Oper)(t:TypeId)(len:Nat)(parts:List (Nat×aa)):Option bE:=match C.P.underlying t,o.dst with|some (.slice e),some d=>(match A0 C e,lP C e,iy C e with|some z,some b,some n=>if decide (0<n)&&decide (n=z.length)&&decide (len*n≤1000)then match vm n b (List.replicate len z) parts with|some rows=>if fc C f o.dst&&jy (rows.map lW)then ret o (.sl (rows.map lW))else if(S.h [d]).isNone then some (put o (.rs [d] 0 len) [] [([d],some rows)])else none|none=>none else none|_,_,_=>none)|_,_=>none
def Bo(C:aU)(t:TypeId)(len:Nat)(parts:List (Nat×aa)):Option Rows:=match C.P.underlying t with|some (.slice e)=>(match A0 C e,lP C e,iy C e with|some z,some b,some n=>if decide (0<n)&&decide (n=z.length)&&decide (len*n≤1000)then vm n b (List.replicate len z) parts else none|_,_,_=>none)|_=>none
def LP(C:aU)(f:FuncId)(o:Oper)(t:TypeId)(len:Nat)(parts:List (Nat×aa)):Bool:=fc C f o.dst&&(match Bo C t len parts with|some rows=> !jy (rows.map lW)|none=>false)
def Fg(C:aU)(S:an)(o:Oper)(t:TypeId)(len:Nat)(parts:List (Nat×aa)):Option bE:=match Bo C t len parts,o.dst with|some rows,some _=>(match mP (pk S.h 8) rows with|some (bB,ids)=>if eR ids then some (put o (.sl (kO bB)) ids (ids.map fun i=>(i,none)))else none|none=>none)|_,_=>none
def sj(C:aU)(f:FuncId)(S:an)(o:Oper)(t:TypeId)(len:Nat)(parts:List (Nat×aa)):Option bE:=if LP C f o t len parts then Fg C S o t len parts else vj C f S o t len parts
def js(o:Oper):Id:=match o.dst with|some d=>[d]|none=>[1000000]
def nN(C:aU)(S:an)(o:Oper)(t:TypeId)(a:aa):Option bE:=match lP C t,iy C t with|some b,some n=>(match a with| .ax cells=>if n≤cells.length then(kS b (cells.take n)).map fun v=>put o v [] []else none| .mp id row off=>(match S.h id with|some (some rows)=>(rows[row]?).bind fun r=>if off+n≤r.length then if(bZ (js o) 0 ((r.drop off).take n)).2.isEmpty then(kS b (bZ (js o) 0 ((r.drop off).take n)).1).map fun v=>put o v [id] []else if fresh S.h (bZ (js o) 0 ((r.drop off).take n)).2 then(kS b (bZ (js o) 0 ((r.drop off).take n)).1).map fun v=>put o v [id] ((id,some (rows.set row (r.take off++(bZ (js o) 0 ((r.drop off).take n)).1++r.drop (off+n))))::(bZ (js o) 0 ((r.drop off).take n)).2)else none else none|_=>none)|_=>none)|_,_=>none
def yT(C:aU)(f:FuncId)(a:Operand):Option Nat:=match a with| .tmp kC=>if(C.e7 f).contains kC then some kC else none|_=>none
def p0(C:aU)(f:FuncId)(S:an)(g:Bool)(o:Oper)(t:TypeId)(ao:Operand)(a x:aa):Option bE:=match lP C t,iy C t with|some b,some n=>(match a,pS b x with| .mp id row off,some cs=>if cs.length≠n then none else(match S.h id with|some (some rows)=>(rows[row]?).bind fun r=>if off+n≤r.length then match yT C f ao with|some kC=>if decide (off=0)&&decide (n=r.length)&&decide (rows.length=1)&&decide (row=0)&&eJ (lW cs)&&g&&o.dst.isNone then some {ek:=[(kC, .ax (lW cs))],rd:=[id],wr:=[(id,none)]}else none|none=>if o.dst.isNone then some (put o .bH [id] [(id,some (rows.set row (r.take off++cs++r.drop (off+n))))])else none else none|_=>none)|_,_=>none)|_,_=>none
def BD(o:Oper):aa→Option bE| .ax cs=>ret o (.ax cs)| .mp id row off=>ret o (.mp id row off)| .fn (.func k) a b=>ret o (.fn (.func k) a b)|_=>none
def eZ(P:Program)(op:BinOp)(t:TypeId)(x y:Operand)(a b:Value):Option Value:=dV P (do eqGuard op t x y a b;binOp op t a b)
def D9(P:Program)(op:UnOp)(a:Value):Option Value:=dV P (Op.unary op a)
def I5(P:Program)(src dst:TypeId)(a:Value):Option Value:=dV P (convert src dst a)
def Ki(P:Program)(ts:Array TypeId)(t:TypeId)(vs:List Value):Option Value:=dV P (Builtin.max_ ts t ⟨vs⟩)
def ai9(P:Program)(ts:Array TypeId)(t:TypeId)(vs:List Value):Option Value:=dV P (Builtin.min_ ts t ⟨vs⟩)
def U3(op:BinOp)(a b:aa):Option Bool:=match op,a,b with| .eql, .nn, .val .nilIface=>some false| .eql, .val .nilIface, .nn=>some false| .neq, .nn, .val .nilIface=>some true| .neq, .val .nilIface, .nn=>some true|_,_,_=>none
def OQ(op:BinOp)(a b:aa):Option Bool:=match op,a,b with| .eql, .ax _, .val (.pointer none)=>some false| .neq, .ax _, .val (.pointer none)=>some true|_,_,_=>none
def tv(C:aU)(o:Oper)(op:BinOp)(t:TypeId)(x y:Operand)(a b:aa):Option bE:=match o9 a,o9 b with|some a,some b=>mR o (eZ C.P op t x y a b)|_,_=>match C.P.underlying t,U3 op a b with|some (.interface _),some r=>ret o (.val (.bool r))|some (.pointer _),_=>(match OQ op a b with|some r=>ret o (.val (.bool r))|none=>none)|_,_=>none
def Jh(C:aU)(o:Oper)(t:TypeId)(x:aa):Option bE:=match C.P.underlying t with|some (.interface _)=>none|some _=>(match x with| .val v=>if e4 (.iface t v)then ret o (.val (.iface t v))else ret o .nn|_=>ret o .nn)|none=>none
def yP(C:aU)(o:Oper)(op:UnOp):aa→Option bE| .val a=>mR o (D9 C.P op a)|_=>none
def Fh(C:aU)(o:Oper)(src dst:TypeId):aa→Option bE| .val a=>mR o (I5 C.P src dst a)|_=>none
def Bp(C:aU)(src dst:TypeId):Bool:=match C.P.underlying src,C.P.underlying dst with|some _,some (.slice e)=>(match C.P.underlying e with|some (.int .u8)=>true|_=>false)|_,_=>false
def IY(s:ByteArray):Rows:=s.data.toList.map fun b=>[.val (.int .u8 b.toNat)]
def Mf(o:Oper):aa→Option bE| .val (.string s)=>ret o (.sl (IY s))|_=>none
def yN(C:aU)(o:Oper)(src dst:TypeId)(x:aa):Option bE:=if Bp C src dst then Mf o x else Fh C o src dst x
def vk(C:aU)(S:an)(o:Oper)(t:TypeId)(l c:aa):Option bE:=match C.P.underlying t,o.dst,fl l,fl c with|some (.slice e),some d,some l,some c=>(match A1 C e,C.P.info? e with|some z,some i=>if decide (0<z.length)&&decide (i.size=z.length)&&decide (i.bytes≤4096)&&decide (0≤l∧l≤c∧c≤4294967296∧(0<l∨c=0))&&(S.h [d]).isNone then some (put o (.rs [d] 0 l.toNat) [] [([d],some (List.replicate l.toNat z))])else none|_,_=>none)|_,_,_,_=>none
def bounds(lo hi:Option (Option Int))(len:Nat):Option (Nat×Nat):=match(match lo with|none=>some 0|some l=>l),(match hi with|none=>some (len:Int)|some h=>h)with|some l,some h=>if 0≤l∧l≤h∧h≤len then some (l.toNat,h.toNat)else none|_,_=>none
def sn(C:aU)(S:an)(o:Oper)(t:TypeId)(x:aa)(lo hi:Option (Option Int)):Option bE:=match C.P.underlying t with|some (.slice e)=>(match x,iy C e with| .sl rows,some sz=>(bounds lo hi rows.length).bind fun b=>if 0<sz∧rows.all (·.length==sz)then ret o (.sl ((rows.take b.2).drop b.1))else none| .rs id off len,some sz=>(match S.h id with|some (some rows)=>(bounds lo hi len).bind fun b=>if off+len≤rows.length∧0<sz∧rows.all (·.length==sz)then some (put o (.rs id (off+b.1) (b.2-b.1)) [id] [])else none|_=>none)|_,_=>none)|some .string=>(match x with| .val (.string s)=>(bounds lo hi s.size).bind fun b=>ret o (.val (.string (s.extract b.1 b.2)))|_=>none)|_=>none
def Fi(C:aU)(s:TypeId)(i:Nat):Option (Nat×Nat×Bool):=match C.P.underlying s with|some (.struct fields)=>(match fields[i]? with|some di=>(match iy C di.type,lP C di.type with|some n,some b=>some (di.offset,n,b)|_,_=>none)|none=>none)|_=>none
def tw(C:aU)(f:FuncId)(o:Oper)(s:TypeId)(i:Nat)(x:aa):Option bE:=match Fi C s i with|some (off,n,_)=>(match x with| .ax cells=>if 0<n∧off≤cells.length then(if fc C f o.dst then(if off+n≤cells.length then ret o (.ax ((cells.drop off).take n))else none)else ret o (.ax (cells.drop off)))else none| .mp id row off'=>if 0<n then ret o (.mp id row (off'+off))else none|_=>none)|none=>none
def Jc(C:aU)(o:Oper)(s:TypeId)(i:Nat)(x:aa):Option bE:=match Fi C s i with|some (off,n,b)=>(match x with| .agg cells=>if off+n≤cells.length then(kS b ((cells.drop off).take n)).map fun v=>put o v [] []else none|_=>none)|none=>none
def pW(C:aU)(S:an)(o:Oper)(t:TypeId)(x:aa)(i:Option Int):Option bE:=match C.P.underlying t,i with|some (.slice e),some i=>(match iy C e,x with|some n, .sl rows=>if 0≤i then(rows[i.toNat]?).bind fun r=>if r.length=n∧0<n then ret o (.ax r)else none else none|some n, .rs id off len=>if 0≤i∧i<len then match S.h id with|some (some rows)=>(rows[off+i.toNat]?).bind fun r=>if r.length=n then some (put o (.mp id (off+i.toNat) 0) [id] [])else none|_=>none else none|_,_=>none)|some (.array len e),some i=>(match iy C e,x with|some n, .ax cells=>if 0≤i∧i<len∧i.toNat*n≤cells.length then ret o (.ax (cells.drop (i.toNat*n)))else none|some n, .mp id row off=>if 0≤i∧i<len then ret o (.mp id row (off+i.toNat*n))else none|_,_=>none)|_,_=>none
def BC(C:aU)(o:Oper)(t:TypeId)(x:aa)(i:Option Int):Option bE:=match C.P.underlying t,i,x with|some .string,some i, .val (.string s)=>if 0≤i then(s[i.toNat]?).bind fun b=>ret o (.val (.int .u8 b.toNat))else none|some (.array len e),some i, .agg cells=>(match iy C e,lP C e with|some n,some b=>if 0≤i∧i<len∧(i.toNat+1)*n≤cells.length then(kS b ((cells.drop (i.toNat*n)).take n)).map fun v=>put o v [] []else none|_,_=>none)|_,_,_=>none
def BB(o:Oper)(x:aa)(i:Nat):Option bE:=match x with| .bG vs=>(match vs[i]? with|some v=>ret o v|none=>none)|_=>none
def tA(C:aU)(o:Oper)(ts:Array TypeId)(xs:List aa):Option bE:=match xs with|[x]=>(match(ts[0]?).bind C.P.underlying with|some d=>(match Gv d x with|some n=>ret o (wR n)|none=>none)|none=>none)|_=>none
def sq(C:aU)(f:FuncId)(o:Oper)(e:bE):Option bE:=if fc C f o.dst then match o.dst,e.wr with|some d,[(id,none),(d',some rows)]=>if d'=[d]∧jy rows=true then some (put o (.sl rows) e.rd [(id,none),([d],none)])else none|some d,[(d',some rows)]=>if d'=[d]∧jy rows=true then some (put o (.sl rows) e.rd [([d],none)])else none|_,_=>none else some e
def m7(C:aU)(S:an)(o:Oper)(ts:Array TypeId)(xs:List aa):Option bE:=match xs,ts[0]?,(ts[1]?).bind C.P.underlying with|[x,y],some t,some (.slice _)=>Bj C S o t x y|[x,y],some t,some (.int _)=>Bk C S o t x y|_,_,_=>none
def pathOf(C:aU):Operand→Option (Nat×Nat)| .func k=>C.path k|_=>none
def wP(S:an)(o:Oper)(p:Nat×Nat):List aa→Option bE|[.mp id row off]=>(match S.h id with|some (some rows)=>(match(rows[row]?).bind fun r=>r[off+p.1]? with|some (.rs g7 off2 len)=>(match S.h g7 with|some (some fD)=>if decide (0<len)&&decide (len≤oZ)&&decide (off2+len≤fD.length)&&fD.all (·.length==p.2)then some (put o (.mp g7 (off2+(len-1)) 0) [id,g7] [])else none|_=>none)|_=>none)|_=>none)|[.ax cells]=>(match cells[p.1]? with|some (.sl rows)=>if decide (rows.length≤oZ)&&rows.all (·.length==p.2)then(rows[rows.length-1]?).map fun r=>put o (.ax r) [] []else none|_=>none)|_=>none
def Kz:List aa→Bool|[.val _]=>true|_=>false
def yO(C:aU)(S:an)(o:Oper)(ts:Array TypeId)(xs:List aa):Option bE:=match xs,(ts[0]?).bind C.P.underlying with|[x,y],some (.slice e)=>(match iy C e,x,rowsOf S.h y with|some 1, .rs id off len,some (ys,i2)=>(match S.h id with|some (some rows)=>if ys.all Kz&&rows.all (·.length==1)&&decide (off+len≤rows.length)then some (put o (wR ((min ys.length len:Nat):Int)) (id::i2) [(id,some (rows.take off++ys.take (min ys.length len)++rows.drop (off+min ys.length len)))])else none|_=>none)|_,_,_=>none)|_,_=>none
/-! Maps: keys and values of one cell without an address. -/
def Ph:TypeDesc→Bool| .int _| .string| .bool=>true|_=>false
def xz(L:Id→Option (Option Rows)):aa→Option (Rows×List Id)| .mr id=>(match L id with|some (some rows)=>some (rows,[id])|_=>none)| .im rows=>some (rows,[])| .val (.map none)=>some ([],[])|_=>none
def qW(kind:TypeDesc)(k:Value):Rows→Option (Option Value)|[]=>some none|[.val k', .val v]::rs=>(match Instr.sameNow kind k k' with|some true=>some (some v)|some false=>qW kind k rs|none=>none)|_=>none
def z9(kind:TypeDesc)(k v:Value):Rows→Option Rows|[]=>some [[.val k, .val v]]|[.val k', .val v']::rs=>(match Instr.sameNow kind k k' with|some true=>some ([.val k, .val v]::rs)|some false=>(z9 kind k v rs).map fun y=>[.val k', .val v']::y|none=>none)|_=>none
def Pc(C:aU)(t:TypeId):Option Value:=match(C.P.info? t).bind (·.zero)with|some v=>if e4 v then some v else none|none=>none
def Cn(C:aU)(t:TypeId):Option (TypeDesc×Value):=match C.P.underlying t with|some (.map kt et)=>(match C.P.underlying kt,Pc C et with|some kind,some z=>if Ph kind then some (kind,z)else none|_,_=>none)|_=>none
def vl(C:aU)(S:an)(o:Oper)(t:TypeId)(r:Option Operand):Option bE:=match Cn C t,o.dst with|some _,some d=>if r.isNone&&(S.h [d]).isNone then some (put o (.mr [d]) [] [([d],some [])])else none|_,_=>none
def pX(C:aU)(S:an)(o:Oper)(t:TypeId)(x k:aa)(ok:Bool):Option bE:=match Cn C t,xz S.h x,k with|some (kind,z),some (rows,ids), .val kv=>(qW kind kv rows).map fun r=>put o (if ok then .bG [.val (r.getD z), .val (.bool r.isSome)]else .val (r.getD z)) ids []|_,_,_=>none
def pY(C:aU)(S:an)(o:Oper)(t:TypeId)(x k v:aa):Option bE:=match Cn C t,x,k,v with|some (kind,_), .mr id, .val kv, .val pF=>(match S.h id with|some (some rows)=>if e4 kv&&e4 pF&&o.dst.isNone then(z9 kind kv pF rows).map fun bB=>put o .bH [id] [(id,some bB)]else none|_=>none)|_,_,_,_=>none
/-! Names that keep their place through a body: they end with a mark. -/
def kj:Nat:=999999
def ki:Id→Bool|[]=>false|[x]=>x==kj|_::y::l=>ki (y::l)
def uo(i q:Id):Id:=if ki i then i else if ki q then q++[0]else q
/-! What lives at a loop's head where names may be shared: the state itself, under names of its own. -/
def gx(l:List (Id×Id))(i:Id):Option Id:=match l with|[]=>none|(o,k)::l=>if o=i then some k else gx l i
def At(l:List (Id×Id)):aa→Option aa| .rs i off len=>(gx l i).map fun k=> .rs k off len| .mp i row off=>(gx l i).map fun k=> .mp k row off| .mr i=>(gx l i).map fun k=> .mr k| .cE=>some .cE|a=>if flat a then some a else none
def Dv(l:List (Id×Id)):List aa→Option (List aa)|[]=>some []|a::as=>match At l a,Dv l as with|some b,some bs=>some (b::bs)|_,_=>none
def sU(l:List (Id×Id)):aa→Option aa| .fn k as cs=>if de as&&de cs then some (.fn k as cs)else(match Dv l as,Dv l cs with|some x,some y=>some (.fn k x y)|_,_=>none)|a=>At l a
def lZ(l:List (Id×Id)):List aa→Option (List aa)|[]=>some []|a::as=>match sU l a,lZ l as with|some b,some bs=>some (b::bs)|_,_=>none
def fL(l:List (Id×Id)):aa→aa| .agg cs=>(match lZ l cs with|some bs=> .agg bs|none=> .bH)| .bG cs=>(match lZ l cs with|some bs=> .bG bs|none=> .bH)| .fn f as cs=>(match lZ l as,lZ l cs with|some bs,some ds=> .fn f bs ds|_,_=> .bH)|a=>match sU l a with|some b=>b|none=> .bH
def Dy(l:List (Id×Id)):Rows→Option Rows|[]=>some []|r::rs=>match lZ l r,Dy l rs with|some b,some bs=>some (b::bs)|_,_=>none
def nB(l:List (Id×Id))(rows:Rows):Option Rows:=if eX rows then some rows else Dy l rows
def fR(L:Id→Option (Option Rows)):Nat→Id→Nat→List (Id×Id)→List aa→List (Id×Id)|0,_,_,acc,_=>acc|_,_,_,acc,[]=>acc|n+1,p,j,acc,a::as=>fR L n p (j+1) (match a with| .rs i _ _=>if(gx acc i).isSome then acc else acc++[(i,uo i (j::p))]| .mr i=>if(gx acc i).isSome then acc else acc++[(i,uo i (j::p))]| .mp i _ _=>if(gx acc i).isSome then acc else(match L i with|some (some [cs])=>fR L n (j::p) 0 (acc++[(i,uo i (j::p))]) cs|_=>acc++[(i,uo i (j::p))])| .agg cs=>fR L n (j::p) 0 acc cs| .fn _ as cs=>if de as&&de cs then acc else fR L n (j::p) 0 acc (as++cs)|_=>acc) as
def q2(L:Id→Option (Option Rows))(l:List (Id×Id)):List (Id×Id)→Option (List (Id×Rows))|[]=>some []|(o,k)::r=>match L o,q2 L l r with|some (some rows),some y=>(nB l rows).map fun bB=>(k,bB)::y|_,_=>none
def o3(l:List (Id×Id))(t:Nat→aa):List Nat→Nat→aa|[]=>fun _=> .bH|s::r=>aC (o3 l t r) s (fL l (t s))
def kR:List (Id×Rows)→Id→Option (Option Rows)|[]=>fun _=>none|(k,rows)::r=>aC (kR r) k (some (some rows))
def names(S:an)(slots:List Nat):List (Id×Id):=slots.foldl (fun acc s=>fR S.h 40 [s] 0 acc [S.t s]) []
def UD(keep:Id→Bool):aa→Bool| .rs i _ _=>keep i| .mp i _ _=>keep i| .mr i=>keep i|a=>flat a
def Ch(keep:Id→Bool)(l:List aa):Bool:=l.all (UD keep)
def hY(L:Id→Option (Option Rows))(keep:Id→Bool):aa→Option (aa×List Id)| .rs i off len=>if keep i then some (.rs i off len,[])else pk L 8 (.rs i off len)| .mp i row off=>if keep i then some (.mp i row off,[])else pk L 8 (.mp i row off)| .mr i=>if keep i then some (.mr i,[])else pk L 8 (.mr i)| .cE=>some (.own [] 0,[])| .fn k as cs=>if Ch keep as&&Ch keep cs then some (.fn k as cs,[])else none|a=>if flat a then some (a,[])else none
def mg(L:Id→Option (Option Rows))(keep:Id→Bool)(r:List aa):Option (List aa×List Id):=if de r then some (r,[])else ew (hY L keep) r
def vG(l:List (Id×Id))(i:Id):Bool:=(gx l i).isSome
/-! Graph calls: arguments as they stand, and the objects that they lead to. -/
def oK(C:aU):aa→Option (FuncId×List aa×List aa)| .fn (.func k) first caps=>if C.dy k then some (k,first,caps)else none|_=>none
def eU(L:Id→Option (Option Rows)):Nat→Bool→Id→Nat→List (Id×Id)→List aa→List (Id×Id)|0,_,_,_,acc,_=>acc|_,_,_,_,acc,[]=>acc|n+1,b,p,j,acc,a::as=>eU L n b p (j+1) (match a with| .rs i _ _=>if !b||(gx acc i).isSome then acc else acc++[(i,j::p)]| .mr i=>if !b||(gx acc i).isSome then acc else acc++[(i,j::p)]| .mp i _ _=>if(gx acc i).isSome then acc else(match L i with|some (some [cs])=>eU L n false (j::p) 0 (acc++[(i,j::p)]) cs|_=>acc++[(i,j::p)])| .agg cs=>eU L n b (j::p) 0 acc cs| .fn _ as cs=>eU L n true (j::p) 0 acc (as++cs)|_=>acc) as
def oE(L:Id→Option (Option Rows))(keep:Id→Bool)(rows:Rows):Option (Rows×List Id):=if eX rows then some (rows,[])else eB (mg L keep) rows
def je(L:Id→Option (Option Rows))(l:List (Id×Id)):List (Id×Id)→Option (List aa×List Id)|[]=>some ([],[])|(o,k)::r=>match L o with|some (some rows)=>(oE L (vG l) rows).bind fun x=>(nB l x.1).bind fun bB=>(je L l r).map fun y=>(.cz k bB::y.1,x.2++y.2)|_=>none
def jr(l':List (Id×Id)):List (Id×Id)→List aa→Option (List (Id×Option Rows))|[],[]=>some []|(o,k)::r, .cz k' rows::outs=>if k'=k then(nB l' rows).bind fun bB=>(jr l' r outs).map fun y=>(o,some bB)::y else none|(o,_)::r, .bH::outs=>(jr l' r outs).map fun y=>(o,none)::y|_,_=>none
structure A4 where
 r:aa
 l:List (Id×Id)
 back:List (Id×Option Rows)
 gone:List Id
def Fu(call:FuncId→List aa→Option (aa×List aa))(L:Id→Option (Option Rows))(k:FuncId)(args:List aa)(l:List (Id×Id)):Option A4:=match je L l l with|some (obs,gone)=>if eR (l.map (·.1))&&eR (l.map (·.2))&&(l.all fun x=>ki x.2)&&eR gone&&vg gone (l.map (·.1))then match call k (.bG obs::args.map (fL l))with|some (r,outs)=>(jr (l.map fun x=>(x.2,x.1)) l outs).map fun back=>⟨r,l,back,gone⟩|none=>none else none|none=>none
def tF(call:FuncId→List aa→Option (aa×List aa))(L:Id→Option (Option Rows))(k:FuncId)(args:List aa):Option A4:=Fu call L k args (eU L 60 true [kj] 0 [] args)
def Aw(L:Id→Option (Option Rows))(b:Id×Option Rows):Bool:=match L b.1,b.2 with|some (some [[.mp i r f]]),some [[.mp i' r' f']]=>i==i'&&r==r'&&f==f'|_,_=>false
def kK(L:Id→Option (Option Rows))(back:List (Id×Option Rows)):List (Id×Option Rows):=back.filter fun b=> !Aw L b
def Ca:aa→Bool| .Cz _=>true|_=>false
def r8(C:aU)(f:FuncId)(call:FuncId→List aa→Option (aa×List aa))(S:an)(o:Oper)(k:FuncId)(args:List aa):Option bE:=
 (tF call S.h k args).bind fun x=>
  if Ca x.r then none else
  let y:=imp (js o) (fL (x.l.map fun x=>(x.2,x.1)) (if fc C f o.dst then(if flat x.r then eC x.r else .bH)else x.r))
  if fresh S.h y.2 then some (put o y.1 (x.l.map (·.1)) (y.2++(kK S.h x.back++x.gone.map fun i=>(i,none))))else none
def bN(C:aU)(f:FuncId)(call:FuncId→List aa→Option (aa×List aa))(S:an)(g:Bool)(o:Oper):Option bE:=match o.op with| .move x=>ret o (un g (S.get C x))| .assign x=>ret o (un g (S.get C x))| .pick c a b=>wQ o (un g (S.get C c)) (un (g&&nK (un g (S.get C c))) (S.get C a)) (un (g&& !nK (un g (S.get C c))) (S.get C b))| .alloc t=>sg C f S o t| .box t x=>si C f S o t (un g (S.get C x))| .build t parts=>wN C f o t (parts.toList.map fun p=>(p.1,un g (S.get C p.2)))| .buildSlice t len parts=>sj C f S o t len (parts.toList.map fun p=>(p.1,un g (S.get C p.2)))| .load t a=>nN C S o t (un g (S.get C a))| .store t a x=>p0 C f S g o t a (un g (S.get C a)) (un g (S.get C x))| .nilCheck x=>BD o (un g (S.get C x))| .binOp op t x y _=>tv C o op t x y (un g (S.get C x)) (un g (S.get C y))| .unOp op _ x=>yP C o op (un g (S.get C x))| .convert src dst x=>yN C o src dst (un g (S.get C x))| .makeInterface t x=>Jh C o t (un g (S.get C x))| .makeFunc fn first caps=>ret o (.fn fn (first.toList.map fun x=>un g (S.get C x)) (caps.toList.map fun x=>un g (S.get C x)))| .makeSlice t l c=>vk C S o t (un g (S.get C l)) (un g (S.get C c))| .slice t x lo hi mx=>if mx.isSome then none else sn C S o t (un g (S.get C x)) (lo.map fun y=>fl (un g (S.get C y))) (hi.map fun y=>fl (un g (S.get C y)))| .fieldAddr s x i=>tw C f o s i (un g (S.get C x))| .field s x i=>Jc C o s i (un g (S.get C x))| .indexAddr t x i=>pW C S o t (un g (S.get C x)) (fl (un g (S.get C i)))| .index t x i=>BC C o t (un g (S.get C x)) (fl (un g (S.get C i)))| .extract x i=>BB o (un g (S.get C x)) i| .makeMap t r=>vl C S o t r| .lookup t x k ok=>pX C S o t (un g (S.get C x)) (un g (S.get C k)) ok| .mapUpdate t x k v=>pY C S o t (un g (S.get C x)) (un g (S.get C k)) (un g (S.get C v))| .insert t x k v=>pY C S o t (un g (S.get C x)) (un g (S.get C k)) (un g (S.get C v))| .call c=>(match c.callee with| .builtin .len=>tA C o c.argTypes (c.args.toList.map fun x=>un g (S.get C x))| .builtin .append=>(m7 C S o c.argTypes (c.args.toList.map fun x=>un g (S.get C x))).bind (sq C f o)| .builtin .copy=>yO C S o c.argTypes (c.args.toList.map fun x=>un g (S.get C x))| .builtin .max=>(match kD (c.args.toList.map fun x=>un g (S.get C x))with|some vs=>mR o (Ki C.P c.argTypes o.type vs)|none=>none)| .builtin .min=>(match kD (c.args.toList.map fun x=>un g (S.get C x))with|some vs=>mR o (ai9 C.P c.argTypes o.type vs)|none=>none)| .value cS=>(match oK C (un g (S.get C cS))with|some x=>r8 C f call S o x.1 (x.2.1++(c.args.toList.map fun x=>un g (S.get C x))++x.2.2)|none=>match pathOf C cS with|some p=>wP S o p (c.args.toList.map fun x=>un g (S.get C x))|none=>if AD C cS then(match cS with| .func k=>tr C f call S o k (c.args.toList.map fun x=>un g (S.get C x))|_=>none)else r7 C f call S o (un g (S.get C cS)) (c.args.toList.map fun x=>un g (S.get C x)))|_=>none)|_=>none
/-! ## Regions -/
def tG(S:an)(ops:Array Oper)(o:Oper):Option Bool:=match o.guard with|none=>some true|some (j,want)=>match(ops[j]?).bind (·.dst)with|some d=>(match S.t d with| .val (.bool b)=>some (b==want)| .dM g (.val (.bool b))=>some (g&&(b==want))| .dM false _=>some false|_=>none)|none=>none
def Cb(o:Oper):bE:=put o (.dM false .bH) [] []
def wO(C:aU)(f:FuncId)(call:FuncId→List aa→Option (aa×List aa))(S:an)(ops:Array Oper)(o:Oper):Option bE:=match tG S ops o with|none=>none|some g=>match o.guard with|none=>bN C f call S true o|some _=>match bN C f call S g o with|some e=>if e.wr.isEmpty then some {e with ek:=e.ek.map fun x=>(x.1, .dM g x.2)}else if g then some e else some (Cb o)|none=>if g then none else some (Cb o)
abbrev jG:=Nat×List Id×List Id
def hkey(i:Nat)(e:bE)(l:List jG):List jG:=if e.rd.isEmpty&&e.wr.isEmpty then l else(i,e.rd,e.wr.map (·.1))::l
def pZ(C:aU)(f:FuncId)(call:FuncId→List aa→Option (aa×List aa))(ops:Array Oper):Nat→List Oper→an→Option (an×List jG)|_,[],S=>some (S,[])|i,o::l,S=>(wO C f call S ops o).bind fun e=>if e.ek.all fun x=>decide (x.1<S.n)then(pZ C f call ops (i+1) l (S.app e)).map fun x=>(x.1,hkey i e x.2)else none
def sV(C:aU)(f:FuncId)(o:Oper):List Nat:=o.dst.toList++(match o.op with| .store _ a _=>(yT C f a).toList|_=>[])
def slotsOf(ops:Array Oper)(o:Oper):List Nat:=(o.op.operands.toList.filterMap fun| .tmp t=>some t|_=>none)++(match o.guard with|some (j,_)=>(match(ops[j]?).bind (·.dst)with|some d=>[d]|none=>[])|none=>[])
def EG(C:aU)(f:FuncId)(ops:Array Oper)(oi oj:Oper):Bool:=((sV C f oi).all fun x=> !(slotsOf ops oj).contains x&& !(sV C f oj).contains x)&&((sV C f oj).all fun y=> !(slotsOf ops oi).contains y)
def GA(a s:List Nat):List Nat:=a.foldl (fun s x=>if s.contains x then s else x::s) s
def IT(ops:Array Oper):List (List Nat):=ops.toList.foldl (init:=[]) fun acc o=>acc++[o.after.toList.foldl (init:=[]) fun s e=>if Region.binds .any e then(if s.contains e.on then s else e.on::GA (acc.getD e.on []) s)else s]
def DM(C:aU)(f:FuncId)(id:Nat)(ops:Array Oper):Bool:=
 let b:=IT ops
 let l:=ops.toList.zipIdx
 Region.noSelect ops&&(l.all fun x=>l.all fun y=>if x.2<y.2 then(b.getD y.2 []).contains x.2||EG C f ops x.1 y.1 else true)&&
 (l.all fun x=>x.1.after.all fun e=> !Region.binds .any e||decide (e.on<x.2))&&(C.iJ f id).all fun p=>(b.getD p.2 []).contains p.1
def vh(a b:jG):Bool:=(a.2.2.all fun x=> !b.2.1.contains x&& !b.2.2.contains x)&&(b.2.2.all fun x=> !a.2.1.contains x)
def qb(iJ:List (Nat×Nat)):List jG→Bool|[]=>true|x::l=>(l.all fun y=>iJ.contains (x.1,y.1)||vh x y)&&qb iJ l
def qV(C:aU)(f:FuncId)(call:FuncId→List aa→Option (aa×List aa))(id:Nat)(ops:Array Oper)(draw:Bool)(S:an):Option an:=(pZ C f call ops 0 ops.toList S).bind fun x=>if draw then(if qb (C.iJ f id) x.2 then some x.1 else none)else some x.1
/-! ## Code -/
def nO:Code→Option Nat| .region id _ _=>some id| .seq a b=>(match nO a with|some i=>some i|none=>nO b)| .cond _ a b=>(match nO a with|some i=>some i|none=>nO b)| .block _ c=>nO c| .loop c=>nO c| .scope c=>nO c|_=>none
def kr(L:Id→Option (Option Rows))(t:Nat→aa):List Nat→Option (List aa×List Id)|[]=>some ([],[])|s::l=>(pk L 9 (t s)).bind fun x=>(kr L t l).map fun y=>(x.1::y.1,x.2++y.2)
def jU(S:an)(slots:List Nat):Option (List aa):=match kr S.h S.t slots with|some (cr,ids)=>if eR ids then some cr else none|none=>none
def aG(n:Nat):List Nat→List aa→an
 |s::l,v::vs=>
  let S:=aG n l vs
  {n,t:=aC S.t s (imp [s] v).1,h:=bD S.h (imp [s] v).2}
 |_,_=>{n,t:=fun _=> .bH,h:=fun _=>none}
def r9(keep:Id→Bool)(S:an)(o:Id):Option an:=match S.h o with|some (some rows)=>if eX rows then some S else(match eB (mg S.h keep) rows with|some (bB,ids)=>if eR ids&& !ids.contains o then some ⟨S.n,S.t,bD S.h ((o,some bB)::ids.map fun i=>(i,none))⟩else none|none=>none)|_=>none
def j3(keep:Id→Bool):List Id→an→Option an|[],S=>some S|o::l,S=>(r9 keep S o).bind (j3 keep l)
def sK(S:an)(s:Nat):an:=match S.t s,S.h [s,s]with| .cE,none=>⟨S.n,aC S.t s (.rs [s,s] 0 0),aC S.h [s,s] (some (some []))⟩|_,_=>S
def kT:List Nat→an→an|[],S=>S|s::l,S=>kT l (sK S s)
def vL(l:List (Id×Id))(slots:List Nat)(S:an):Option an:=if eR (l.map (·.1))&&eR (l.map (·.2))&&l.all (fun x=> !ki x.2||x.1==x.2)then(q2 S.h l l).map fun hl=>⟨S.n,o3 l S.t slots,kR hl⟩else none
def GF(S:an)(slots:List Nat)(l:List (Id×Id)):Option an:=(j3 (vG l) (l.map (·.1)) S).bind (vL l slots)
def norm(S:an)(slots:List Nat):Option an:=GF (kT slots S) slots (names (kT slots S) slots)
def eH(o:Option (Bool×List Nat))(S:an):Option an:=match o with|none=>some S|some (true,l)=>norm S l|some (false,l)=>(jU S l).map (aG S.n l)
def rN(C:aU)(f:FuncId)(b:Code):Option (Bool×List Nat):=match nO b with|some i=>C.I6 f i|none=>none
def tC(S:an)(s:Nat):Option an:=match pk S.h 9 (S.t s)with|some (v,ids)=>if eR ids then some ⟨S.n,aC S.t s (eC v),bD S.h (ids.map fun i=>(i,none))⟩else none|none=>none
def tB(S:an)(s:Nat):Option an:=match S.t s with| .mp id 0 0=>(match S.h id with|some (some [cells])=>if eJ cells then some ⟨S.n,aC S.t s (.ax cells),aC S.h id (some none)⟩else none|_=>none)| .rs _ _ _=>tC S s| .cE=>tC S s| .mr _=>tC S s|_=>none
def mu:List Nat→an→Option an|[],S=>some S|s::l,S=>(tB S s).bind (mu l)
def sO(p:Nat)(S:an)(s:Nat):Option an:=match S.t s with| .mp id _ _=>(match S.h id with|some (some [r])=>if(bZ [p,s] 0 r).2.isEmpty then some S else if s<S.n∧fresh S.h (bZ [p,s] 0 r).2=true then some ⟨S.n,S.t,bD S.h ((id,some [(bZ [p,s] 0 r).1])::(bZ [p,s] 0 r).2)⟩else none|_=>none)|_=>none
def n8(p:Nat):List Nat→an→Option an|[],S=>some S|s::l,S=>(sO p S s).bind (n8 p l)
def qT(C:aU)(f:FuncId)(id:Nat)(S:an):Option an:=(n8 (1000+id) (C.ko f id) S).bind fun cg=>(mu (C.k7 f id) cg).bind (eH (C.j5 f id))
abbrev uV:=(α:Type)→(α→Option (Exit×an))→(an→Option α)→α→Option (Exit×an)
def iZ{α:Type}(g:α→Option (Exit×an))(rn:an→Option α):Nat→α→Option (Exit×an)|0,_=>none|n+1,cr=>(g cr).bind fun x=>match x.1 with| .normal=>(rn x.2).bind (iZ g rn n)|_=>some x
/-! A range over a function: each round begins with the slots of the loop's entry, and with what has been yielded. -/
def vO(t:Nat→aa):List (Nat×aa)→Nat→aa|[]=>t|(p,v)::l=>vO (aC t p v) l
def Hx(S:an)(ps:List Nat)(y:List aa):Option an:=if ps.length=y.length∧(ps.all fun p=>decide (p<S.n))=true then some ⟨S.n,vO S.t (ps.zip y),S.h⟩else none
def sk(g:an→Option (Exit×an))(rn:an→Option an)(ps:List Nat):List (List aa)→an→Option (Exit×an)|[],S=>some (.normal,S)|y::ys,S=>(Hx S ps y).bind fun cg=>(g cg).bind fun x=>(rn x.2).bind fun ei=>match x.1 with| .normal=>sk g rn ps ys ei| .ret=>some (.ret,ei)| .exit i=>some (.exit i,ei)|_=>none
def V5(assign body:Code):Option Nat:=match nO assign with|some i=>some i|none=>nO body
def Af(C:aU)(f:FuncId)(assign body:Code):List Nat:=match V5 assign body with|some i=>C.live f i|none=>[]
def Ae(C:aU)(f:FuncId)(assign body:Code):Option (Bool×List Nat):=some (match V5 assign body with|some i=>C.shr f i|none=>false,Af C f assign body)
def CD(C:aU)(x:aa):Option (List (List aa)):=match x with
 | .fn (.func k) [] caps=>if eJ caps then(C.iter k).bind (· caps)else none
 |_=>none
def c6(C:aU)(f:FuncId)(call:FuncId→List aa→Option (aa×List aa))(cN:uV):Code→an→Option (Exit×an)
 | .skip,S=>some (.normal,S)
 | .label _,S=>some (.normal,S)
 | .exit id,S=>some (.exit id,S)
 | .ret,S=>some (.ret,S)
 | .region id ops draw,S=>((mu (C.oJ f id) S).bind fun k3=>(qV C f call id ops draw k3).bind (qT C f id)).map fun S'=>(.normal,S')
 | .seq a b,S=>(c6 C f call cN a S).bind fun x=>match x.1 with
  | .normal=>(eH (rN C f b) x.2).bind (c6 C f call cN b)
  |_=>some x
 | .cond c a b,S=>match un true (S.get C c)with
  | .val (.bool t)=>if t then c6 C f call cN a S else c6 C f call cN b S
  |_=>none
 | .block id c,S=>(c6 C f call cN c S).bind fun x=>match(match x.1 with| .exit i=>if i=id then .normal else .exit i|e=>e:Exit)with
  | .normal=>(eH (C.qS f id) x.2).map fun S'=>(.normal,S')
  |e=>some (e,x.2)
 | .loop c,S=>
  let slots:=match nO c with|some i=>C.live f i|none=>[]
  if(match nO c with|some i=>C.shr f i|none=>false)then
   (norm S slots).bind fun cg=>cN an (fun S'=>c6 C f call cN c S') (fun S'=>norm S' slots) cg
  else(jU S slots).bind fun cr=>cN (List aa) (fun cr=>c6 C f call cN c (aG S.n slots cr)) (fun S'=>jU S' slots) cr
 | .rangeFunc g ps assign body,S=>(CD C (un true (S.get C g))).bind fun ys=>(eH (Ae C f assign body) S).bind
   (sk (fun cg=>(c6 C f call cN assign cg).bind fun x=>match x.1 with| .normal=>c6 C f call cN body x.2|_=>none) (eH (Ae C f assign body)) ps.toList ys)
 |_,_=>none
/-! ## Functions -/
def xO(C:aU)(S:an):ResultVar→Option (aa×List Id)| .tmp t=>pk S.h 9 (un true (S.t t))| .cell a ty=>match lP C ty,iy C ty,un true (S.t a)with|some b,some n, .ax cells=>if n≤cells.length then((kS b (cells.take n)).bind (pk S.h 9))else none|some b,some n, .mp id row off=>(match S.h id with|some (some rows)=>(match rows[row]? with|some r=>if off+n≤r.length then((kS b ((r.drop off).take n)).bind (pk S.h 9)).map fun x=>(x.1,id::x.2)else none|none=>none)|_=>none)|_,_,_=>none
def lE(C:aU)(S:an):List ResultVar→Option (List aa×List Id)|[]=>some ([],[])|r::l=>(xO C S r).bind fun x=>(lE C S l).map fun y=>(x.1::y.1,x.2++y.2)
def finish(C:aU)(fn:Func)(cK:List Nat)(_args:List aa)(S:an):Option (aa×List aa):=match lE C S fn.results.toList,kr S.h S.t cK with|some (rs,i1),some (outs,i2)=>if eR (i1++i2)then some (match rs with|[r]=>r|_=> .bG rs,outs)else none|_,_=>none
/-! At the end of a call whose objects keep their places. -/
def oF(L:Id→Option (Option Rows))(keep:Id→Bool):aa→Option (aa×List Id)| .agg cs=>(ew (hY L keep) cs).map fun x=>(.agg x.1,x.2)|a=>hY L keep a
def xP(C:aU)(S:an)(p:aa→Option (aa×List Id)):ResultVar→Option (aa×List Id)| .tmp t=>p (un true (S.t t))| .cell a ty=>match lP C ty,iy C ty,un true (S.t a)with|some b,some n, .ax cells=>if n≤cells.length then((kS b (cells.take n)).bind p)else none|some b,some n, .mp id row off=>(match S.h id with|some (some rows)=>(match rows[row]? with|some r=>if off+n≤r.length then((kS b ((r.drop off).take n)).bind p).map fun x=>(x.1,id::x.2)else none|none=>none)|_=>none)|_,_,_=>none
def nC(C:aU)(S:an)(p:aa→Option (aa×List Id)):List ResultVar→Option (List aa×List Id)|[]=>some ([],[])|r::l=>(xP C S p r).bind fun x=>(nC C S p l).map fun y=>(x.1::y.1,x.2++y.2)
def nZ:Option (Option Rows)→Bool|some (some _)=>true|_=>false
def mO(L:Id→Option (Option Rows))(keep:Id→Bool):List Id→Option (List aa×List Id)|[]=>some ([],[])|k::r=>match L k with|some (some rows)=>(oE L keep rows).bind fun x=>(mO L keep r).map fun y=>(.cz k x.1::y.1,x.2++y.2)|_=>(mO L keep r).map fun y=>(.bH::y.1,y.2)
def sJ(ids:List Id)(S:an):an:=⟨S.n,S.t,bD S.h (ids.map fun i=>(i,none))⟩
def yR(C:aU)(fn:Func)(ks:List Id)(S:an):Option (aa×List aa):=
 let al:=ks.filter fun k=>nZ (S.h k)
 let keep:Id→Bool:=fun i=>al.contains i
 match nC C S (oF S.h keep) fn.results.toList,mO S.h keep ks with
 |some (rs,i1),some (outs,i2)=>if eR (al++(i1++i2))then some (match rs with|[r]=>r|_=> .bG rs,outs)else none
 |_,_=>none
def sN:List aa→Option (List (Id×Rows))|[]=>some []| .cz i rows::l=>(sN l).map ((i,rows)::·)|_::_=>none
def HP(n:Nat)(ps:List aa)(hl:List (Id×Rows)):an:=⟨n,fun t=>ps.getD t .bH,kR hl⟩
def Jg(C:aU)(call:FuncId→List aa→Option (aa×List aa))(cN:uV)(f:FuncId)(fn:Func)(c:Code):List aa→Option (aa×List aa)| .bG obs::ps=>(match sN obs with|some hl=>if ps.length≤fn.ntmps∧fn.ntmps≤kj then((n8 kj (C.ko f kj) (HP fn.ntmps ps hl)).bind (c6 C f call cN c)).bind fun x=>match x.1 with| .normal=>yR C fn (hl.map (·.1)) (sJ (C.wJ f) x.2)| .ret=>yR C fn (hl.map (·.1)) (sJ (C.wJ f) x.2)|_=>none else none|none=>none)|_=>none
def wM(C:aU)(call:FuncId→List aa→Option (aa×List aa))(cN:uV)(f:FuncId)(args:List aa):Option (aa×List aa):=match C.ext f with|some g=>g args|none=>match C.P.funcs[f]? with|some fn=>(match fn.body with|some c=>if C.dy f then Jg C call cN f fn c args else if args.length≤fn.ntmps then(c6 C f call cN c (aG fn.ntmps (List.range args.length) args)).bind fun x=>match x.1 with| .normal=>finish C fn (C.cK f) args x.2| .ret=>finish C fn (C.cK f) args x.2|_=>none else none|none=>none)|none=>none
end Go.Ab
