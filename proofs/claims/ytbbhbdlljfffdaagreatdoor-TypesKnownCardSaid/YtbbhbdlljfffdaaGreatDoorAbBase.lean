import Derived.Deep.Quiet
open List renaming replicate→AC
set_option linter.all false
namespace Go.Ab
open Go
abbrev Id:=List Nat
inductive U where|val(v:Value)|sl(rows:List (List U))|aD(cells:List U)|cw|rs(id:Id)(off len:Nat)|mp(id:Id)(row off:Nat)|fn(f:Fn)(first caps:List U)|agg(cells:List U)|aS(vs:List U)|own(rows:List (List U))(len:Nat)|aT(cells:List U)|c8(g:Bool)(x:U)|nn|mr(id:Id)|ey(rows:List (List U))|im(rows:List (List U))|bl(id:List Nat)(rows:List (List U))|zz(v:Value)|br deriving Inhabited
abbrev Rows:=List (List U)
structure ah where
 n:Nat
 t:Nat→U
 h:Id→Option (Option Rows)
structure bq where
 dz:List (Nat×U)
 rd:List Id
 wr:List (Id×Option Rows)
def ak{α β:Type}[DecidableEq α](f:α→β)(k:α)(v:β):α→β:=fun j=>if j=k then v else f j
def cW(t:Nat→U):List (Nat×U)→Nat→U|[]=>t|(i,v)::l=>ak (cW t l) i v
def bp(h:Id→Option (Option Rows)):List (Id×Option Rows)→Id→Option (Option Rows)|[]=>h|(i,r)::l=>ak (bp h l) i (some r)
def ah.app(s:ah)(e:bq):ah:={n:=s.n,t:=cW s.t e.dz,h:=bp s.h e.wr}
def eB:Value→Bool| .bool _| .int _ _| .float _ _| .string _| .pointer _| .nilFunc| .nilIface| .map none| .iface _ (.int _ _)| .iface _ (.string _)| .iface _ (.bool _)=>true|_=>false
def cZ{α:Type}(P:Program):Sem α→Option α| .pure a=>some a| .program k=>cZ P (k P)|_=>none
structure aG where
 P:Program
 cA:Nat→Option (List U)
 ext:FuncId→Option (List U→Option (U×List U))
 cv:FuncId→List Nat
 wX:FuncId→List Nat:=fun _=>[]
 shr:FuncId→Nat→Bool:=fun _ _=>false
 eD:FuncId→List Nat
 live:FuncId→Nat→List Nat
 gX:FuncId→Nat→List (Nat×Nat)
 jb:FuncId→Nat→Option (Bool×List Nat):=fun _ _=>none
 oz:FuncId→Nat→Option (Bool×List Nat):=fun _ _=>none
 Ek:FuncId→Nat→Option (Bool×List Nat):=fun _ _=>none
 path:FuncId→Option (Nat×Nat):=fun _=>none
 uV:FuncId→Nat→List Nat:=fun _ _=>[]
 iter:FuncId→Option (List U→Option (List (List U))):=fun _=>none
 look:FuncId→Bool:=fun _=>false
 jU:FuncId→Nat→List Nat:=fun _ _=>[]
 gM:FuncId→Bool:=fun _=>false
 iP:FuncId→Nat→List Nat:=fun _ _=>[]
 k5:FuncId→Nat→List Nat:=fun _ _=>[]
 qM:FuncId→List Id:=fun _=>[]
 Em:FuncId→Nat→Bool:=fun _ _=>false
 mX:FuncId→Bool:=fun _=>false
 amu:FuncId→Nat→Bool:=fun _ _=>false
def ah.get(C:aG)(s:ah):Operand→U| .tmp t=>s.t t| .const v=>if eB v then .val v else(match v with| .slice none 0 0=> .cw|_=> .br)| .global g=>(match C.cA g with|some cs=> .aD cs|none=> .br)| .func f=> .fn (.func f) [] []
def un(g:Bool):U→U| .c8 g' x=>if !g||g' then x else .br|x=>x
def iT:List U→Option (List Value)|[]=>some []| .val v::l=>(iT l).map (v::·)|_::_=>none
def ob:U→Option Value| .val v=>some v| .agg cs=>(iT cs).map fun vs=> .agg ⟨vs⟩|_=>none
def KA(v:Value):Option U:=if eB v then some (.val v)else match v with| .slice none 0 0=>some .cw|_=>none
def zy:List Value→Option (List U)|[]=>some []|v::l=>match KA v with|some a=>(zy l).map (a::·)|none=>none
def xE(C:aG)(t:TypeId):Option (List U):=match(C.P.info? t).bind (·.zero)with|some v=>zy v.cells.toList|none=>none
def Kz(v:Value):Option U:=if eB v then some (.val v)else match v with| .slice none 0 0=>some (.own [] 0)|_=>none
def w4:List Value→Option (List U)|[]=>some []|v::l=>match Kz v with|some a=>(w4 l).map (a::·)|none=>none
def xF(C:aG)(t:TypeId):Option (List U):=match(C.P.info? t).bind (·.zero)with|some v=>w4 v.cells.toList|none=>none
def gJ(C:aG)(t:TypeId):Option Nat:=(C.P.info? t).map (·.size)
def kI(C:aG)(t:TypeId):Option Bool:=(C.P.underlying t).map fun| .struct _=>true| .array _ _=>true|_=>false
def nz:U→U| .cw=> .sl []|x=>x
def kK(l:List U):List U:=l.map nz
def U.cell:U→Bool| .val _| .sl _| .aD _| .cw| .rs _ _ _| .mp _ _ _| .fn _ _ _| .nn| .mr _| .im _=>true|_=>false
def ox(Fi:Bool):U→Option (List U)| .agg cs=>if Fi&&cs.all U.cell then some cs else none|x=>if !Fi&&x.cell then some [x]else none
def iL(Fi:Bool)(cs:List U):Option U:=if Fi then some (.agg cs)else match cs with|[c]=>some c|_=>none
def bU(p:Id):Nat→List U→List U×List (Id×Option Rows)|_,[]=>([],[])|j,c::cs=>match c with| .own rows len=>(.rs (j::p) 0 len::(bU p (j+1) cs).1,(j::p,some rows)::(bU p (j+1) cs).2)| .aT cells=>(.mp (j::p) 0 0::(bU p (j+1) cs).1,(j::p,some [cells])::(bU p (j+1) cs).2)| .ey rows=>(.mr (j::p)::(bU p (j+1) cs).1,(j::p,some rows)::(bU p (j+1) cs).2)| .agg _=>(.br::(bU p (j+1) cs).1,(bU p (j+1) cs).2)| .aS _=>(.br::(bU p (j+1) cs).1,(bU p (j+1) cs).2)|c=>(c::(bU p (j+1) cs).1,(bU p (j+1) cs).2)
def eU(p:Id):Nat→List U→List U×List (Id×Option Rows)|_,[]=>([],[])|j,c::cs=>match c with| .own rows len=>(.rs (j::p) 0 len::(eU p (j+1) cs).1,(j::p,some rows)::(eU p (j+1) cs).2)| .aT cells=>(.mp (j::p) 0 0::(eU p (j+1) cs).1,(j::p,some [cells])::(eU p (j+1) cs).2)| .ey rows=>(.mr (j::p)::(eU p (j+1) cs).1,(j::p,some rows)::(eU p (j+1) cs).2)| .agg l=>(.agg (bU (j::p) 0 l).1::(eU p (j+1) cs).1,(bU (j::p) 0 l).2++(eU p (j+1) cs).2)| .aS _=>(.br::(eU p (j+1) cs).1,(eU p (j+1) cs).2)|c=>(c::(eU p (j+1) cs).1,(eU p (j+1) cs).2)
def imp(p:Id):U→U×List (Id×Option Rows)| .own rows len=>(.rs p 0 len,[(p,some rows)])| .aT cells=>(.mp p 0 0,(p,some [(bU p 0 cells).1])::(bU p 0 cells).2)| .ey rows=>(.mr p,[(p,some rows)])| .agg l=>(.agg (bU p 0 l).1,(bU p 0 l).2)| .aS l=>(.aS (eU p 0 l).1,(eU p 0 l).2)|x=>(x,[])
mutual def flat:U→Bool| .rs _ _ _| .mp _ _ _| .c8 _ _| .cw| .mr _=>false| .own rows _=>en rows| .aT cells=>cM cells| .agg cells=>cM cells| .aS vs=>cM vs| .fn _ first caps=>cM first&&cM caps|_=>true def cM:List U→Bool|[]=>true|c::cs=>flat c&&cM cs def en:List (List U)→Bool|[]=>true|r::rs=>cM r&&en rs end
mutual def fo:U→Bool| .rs _ _ _| .mp _ _ _| .c8 _ _| .cw| .own _ _| .aT _| .mr _| .ey _| .br=>false| .agg cells=>eA cells| .aS vs=>eA vs| .fn _ first caps=>eA first&&eA caps|_=>true def eA:List U→Bool|[]=>true|c::cs=>fo c&&eA cs end
def iJ(rows:Rows):Bool:=rows.all eA
def dM(p:U→Option (U×List Id)):List U→Option (List U×List Id)|[]=>some ([],[])|c::cs=>(p c).bind fun x=>(dM p cs).map fun y=>(x.1::y.1,x.2++y.2)
def dN(p:List U→Option (List U×List Id)):Rows→Option (Rows×List Id)|[]=>some ([],[])|r::rs=>(p r).bind fun x=>(dN p rs).map fun y=>(x.1::y.1,x.2++y.2)
def gR(p:U→Option (U×List Id))(cs:List U):Option (List U×List Id):=if cM cs then some (cs,[])else dM p cs
def lz(p:U→Option (U×List Id))(rs:Rows):Option (Rows×List Id):=if en rs then some (rs,[])else dN (gR p) rs
def pk(L:Id→Option (Option Rows)):Nat→U→Option (U×List Id)|0,_=>none|n+1,a=>match a with| .rs id off len=>(match L id with|some (some rs)=>if off=0∧len≤rs.length then(lz (pk L n) rs).map fun x=>(.own x.1 len,id::x.2)else none|_=>none)| .mp id row off=>(match L id with|some (some [cs])=>if row=0∧off=0 then(gR (pk L n) cs).map fun x=>(.aT x.1,id::x.2)else none|_=>none)| .mr id=>(match L id with|some (some rs)=>some (.ey rs,[id])|_=>none)| .cw=>some (.own [] 0,[])| .agg cs=>(gR (pk L n) cs).map fun x=>(.agg x.1,x.2)| .aS cs=>(gR (pk L n) cs).map fun x=>(.aS x.1,x.2)| .fn f a b=>if eA a&&eA b then some (.fn f a b,[])else none| .c8 _ _=>some (.br,[])| .own rs len=>if en rs then some (.own rs len,[])else none| .aT cs=>if cM cs then some (.aT cs,[])else none|a=>some (a,[])
def ia(p:U→Option (U×List Id))(cs:List U):Option (List U×List Id):=if eA cs then some (cs,[])else dM p cs
def kT(p:U→Option (U×List Id))(rs:Rows):Option (Rows×List Id):=if iJ rs then some (rs,[])else dN (ia p) rs
def ck(L:Id→Option (Option Rows)):Nat→U→Option (U×List Id)|0,_=>none|n+1,a=>match a with| .rs id off len=>(match L id with|some (some rs)=>if off+len≤rs.length then(kT (ck L n) ((rs.drop off).take len)).map fun x=>(.sl x.1,id::x.2)else none|_=>none)| .mp id row off=>(match L id with|some (some rs)=>(match rs[row]? with|some r=>if off≤r.length then(ia (ck L n) (r.drop off)).map fun x=>(.aD x.1,id::x.2)else none|none=>none)|_=>none)| .mr id=>(match L id with|some (some rs)=>some (.im rs,[id])|_=>none)| .ey rs=>some (.im rs,[])| .own rs len=>(kT (ck L n) (rs.take len)).map fun x=>(.sl x.1,x.2)| .aT cs=>(ia (ck L n) cs).map fun x=>(.aD x.1,x.2)| .cw=>some (.sl [],[])| .agg cs=>(ia (ck L n) cs).map fun x=>(.agg x.1,x.2)| .aS cs=>(ia (ck L n) cs).map fun x=>(.aS x.1,x.2)| .fn f a b=>(ia (ck L n) a).bind fun x=>(ia (ck L n) b).map fun y=>(.fn f x.1 y.1,x.2++y.2)| .c8 _ _=>some (.br,[])|a=>some (a,[])
def qE(L:Id→Option (Option Rows))(as:List U):Option (List U×List Id):=dM (ck L 9) as
/-! ## One operation -/
def put(o:Oper)(v:U)(rd:List Id)(wr:List (Id×Option Rows)):bq:={dz:=match o.dst with|some d=>[(d,v)]|none=>[],rd,wr}
def fresh(L:Id→Option (Option Rows))(l:List (Id×Option Rows)):Bool:=l.all fun x=>(L x.1).isNone
def CX(C:aG):List Field→Option (List (Nat×Nat×Bool))|[]=>some []|f::l=>match gJ C f.type,kI C f.type,CX C l with|some n,some b,some r=>some ((f.offset,n,b)::r)|_,_,_=>none
def La(C:aG)(t:TypeId):Option (List (Nat×Nat×Bool)):=match C.P.underlying t with|some (.struct fields)=>CX C fields.toList|_=>none
def vJ(place:List (Nat×Nat×Bool))(cells:List U):List (Nat×U)→Option (List U)|[]=>some cells|(i,v)::rest=>match place[i]? with|none=>none|some (off,n,b)=>match ox b v with|none=>none|some cs=>if cs.length=n∧off+n≤cells.length then vJ place (cells.take off++cs++cells.drop (off+n)) rest else none
def r9(n:Nat)(b:Bool)(rows:Rows):List (Nat×U)→Option Rows|[]=>some rows|(i,v)::rest=>match ox b v with|none=>none|some cs=>if cs.length=n∧i<rows.length then r9 n b (rows.set i cs) rest else none
def eo:U→Option Int| .val (.int _ n)=>some n|_=>none
def tL(n:Int):U:= .val (.int .i64 n)
def nV:Nat:=4294967296
def rowsOf(L:Id→Option (Option Rows)):U→Option (Rows×List Id)| .sl rows=>some (rows,[])| .cw=>some ([],[])| .rs id off len=>(match L id with|some (some rs)=>if off+len≤rs.length then some ((rs.drop off).take len,[id])else none|_=>none)|_=>none
def qj(rows:Rows):Bool:=rows.all (·.all U.cell)
def rY(a b:List Id):Bool:=a.all fun x=> !b.contains x
def dP:List Id→Bool|[]=>true|x::l=> !l.contains x&&dP l
mutual def mine:U→Bool| .val _| .br| .cw| .nn| .ey _=>true| .own rows _=>zm rows| .aT cells=>jA cells| .agg cells=>jA cells| .aS vs=>jA vs|_=>false def jA:List U→Bool|[]=>true|c::cs=>mine c&&jA cs def zm:List (List U)→Bool|[]=>true|r::rs=>jA r&&zm rs end
mutual def dG:U→U| .own rows len=> .sl ((jT rows).take len)| .aT cells=> .aD (ju cells)| .ey rows=> .im rows| .agg cells=> .agg (ju cells)| .aS vs=> .aS (ju vs)|x=>x def ju:List U→List U|[]=>[]|c::cs=>dG c::ju cs def jT:List (List U)→List (List U)|[]=>[]|r::rs=>ju r::jT rs end
def eJ(C:aG)(f:FuncId)(d:Option Nat):Bool:=match d with|some d=>(C.eD f).contains d|none=>false
def CF:List U→Bool|[.val _]=>true|[.aD _]=>true|_=>false
def wT(S:ah)(o:Oper)(as:List U):Option bq:=match as with|[.val (.int .i64 i), .mp id 0 0, .aD cells]=>(match cells[4]?,S.h id with|some (U.sl ks),some (some [[.rs gw 0 n]])=>(match S.h gw,ks[i.toNat]? with|some (some rows),some [.val (.int .i64 c)]=>(match rows[c.toNat]? with|some [x]=>if 0≤i∧0≤c∧n=rows.length∧rows.all CF=true∧fo x=true∧o.dst.isSome=true then some (put o x [id,gw] [])else none|_=>none)|_,_=>none)|_,_=>none)|_=>none
def qI(C:aG)(f:FuncId)(call:FuncId→List U→Option (U×List U))(S:ah)(o:Oper)(fv:U)(args:List U):Option bq:=match fv with| .fn (.func k) first caps=>if C.look k then wT S o (first++args++caps)else(match qE S.h (first++args++caps),o.dst with|some (as,seen),some d=>(match call k as with|some (r,[])=>if !seen.isEmpty&& !mine r then none else if fresh S.h (imp [d] (if eJ C f o.dst then dG r else r)).2 then some (put o (imp [d] (if eJ C f o.dst then dG r else r)).1 seen (imp [d] (if eJ C f o.dst then dG r else r)).2)else none|_=>none)|_,_=>none)|_=>none
def zZ(C:aG):Operand→Bool| .func k=> !(C.wX k).isEmpty|_=>false
def jF(L:Id→Option (Option Rows)):List Nat→List U→Option (List U×List Id×List Id×List Id)|_,[]=>some ([],[],[],[])|ms,a::l=>(jF L ms.tail l).bind fun y=>match ms.headD 0 with|1=>(pk L 9 a).map fun x=>(x.1::y.1,y.2.1,x.2++y.2.2.1,y.2.2.2)|2=>(pk L 9 a).map fun x=>(dG x.1::y.1,y.2.1,y.2.2.1,x.2++y.2.2.2)|_=>(ck L 9 a).map fun x=>(x.1::y.1,x.2++y.2.1,y.2.2.1,y.2.2.2)
def jk(L:Id→Option (Option Rows)):U→U→Option (List (Id×Option Rows))| .mp id 0 0, .aT cs=>(match L id with|some (some [old])=>if cs.length=old.length then some [(id,some [cs])]else none|_=>none)| .rs id 0 n, .own rows len=>(match L id with|some (some (o1::os))=>if len=n∧rows.length=n∧n=(o1::os).length∧rows.all (·.length==o1.length)then some [(id,some rows)]else none|some (some [])=>if len=0∧rows.length=0∧n=0 then some [(id,some [])]else none|_=>none)| .mr id, .ey rows=>(match L id with|some (some _)=>some [(id,some rows)]|_=>none)| .rs _ _ _,_=>none| .mp _ _ _,_=>none| .mr _,_=>none| .agg _,_=>none|_,_=>some []
def jE(L:Id→Option (Option Rows)):List U→List U→Option (List (Id×Option Rows))|[],[]=>some []|a::as,b::bs=>(match jk L a b,jE L as bs with|some x,some y=>some (x++y)|_,_=>none)|_,_=>none
def rA(L:Id→Option (Option Rows)):U→U→Option (List (Id×Option Rows))| .agg as, .agg bs=>jE L as bs|a,b=>jk L a b
def gH(L:Id→Option (Option Rows))(args:List U):List Nat→List U→Option (List (Id×Option Rows))|[],[]=>some []|j::l,b::bs=>(match args[j]?,gH L args l bs with|some a,some y=>(match rA L a b with|some x=>some (x++y)|none=>none)|_,_=>none)|_,_=>none
def qJ(C:aG)(f:FuncId)(call:FuncId→List U→Option (U×List U))(S:ah)(o:Oper)(k:FuncId)(args:List U):Option bq:=match jF S.h (C.wX k) args,o.dst with|some (as,seen,tk,di),some d=>(match call k as with|some (r,outs)=>(match gH S.h args (C.cv k) outs with|some back=>if dP (tk++di)&&rY seen (tk++di)&&(seen.isEmpty||mine r&&outs.all mine)&&dP (back.map (·.1))&&(back.all fun x=>tk.contains x.1)&&fresh S.h (imp [d] (if eJ C f o.dst then dG r else r)).2 then some (put o (imp [d] (if eJ C f o.dst then dG r else r)).1 seen ((imp [d] (if eJ C f o.dst then dG r else r)).2++(back++(tk++di).map fun i=>(i,none))))else none|none=>none)|none=>none)|_,_=>none
def DA(i:TypeInfo):Bool:=match i.zero with|some z=>z.cells.size==i.size|none=>false
def l8(S:ah)(o:Oper)(d m:Nat)(x:U)(xs ys:Rows)(i1 i2:List Id):Option bq:=match x with| .rs id off _=>(match S.h id with|some (some rows)=>if rows.all (·.length==m)&&decide (off=0)&&(!(xs++ys).isEmpty||rows.isEmpty)then some (put o (.rs [d] 0 (xs.length+ys.length)) (i1++i2) [(id,none),([d],some (xs++ys))])else none|_=>none)| .cw=>some (put o (.rs [d] 0 (xs.length+ys.length)) (i1++i2) [([d],some (xs++ys))])|_=>none
def xZ(C:aG)(S:ah)(o:Oper)(t:TypeId)(x y:U):Option bq:=match C.P.underlying t,o.dst with|some (.slice e),some d=>(match C.P.info? e,rowsOf S.h x,rowsOf S.h y with|some i,some (xs,i1),some (ys,i2)=>if ys.all (·.length==i.size)&&decide (0<i.size)&&decide (i.bytes≤4096)&&DA i&&decide (xs.length+ys.length≤nV)&&qj ys&&(S.h [d]).isNone then l8 S o d i.size x xs ys i1 i2 else none|_,_,_=>none)|_,_=>none
def x4(C:aG)(S:ah)(o:Oper)(t:TypeId)(x y:U):Option bq:=match C.P.underlying t,o.dst,eo y with|some (.slice e),some d,some n=>(match C.P.info? e,xF C e,rowsOf S.h x with|some i,some z,some (xs,i1)=>if decide (0≤n∧n≤4294967296)&&decide (z.length=i.size)&&decide (0<i.size)&&decide (i.bytes≤4096)&&DA i&&decide (xs.length+n.toNat≤nV)&&z.all U.cell&&(S.h [d]).isNone then l8 S o d i.size x xs (AC n.toNat z) i1 []else none|_,_,_=>none)|_,_,_=>none
def Cs:U→Option Nat| .sl rows=>some rows.length| .rs _ _ len=>some len| .cw=>some 0|_=>none
def Cr:TypeDesc→U→Option Nat| .string, .val (.string s)=>some s.size| .slice _,x=>Cs x|_,_=>none
def ret(o:Oper)(v:U):Option bq:=some (put o v [] [])
def lB(o:Oper):Option Value→Option bq|some v=>if eB v then ret o (.val v)else none|none=>none
def tI(o:Oper)(c a b:U):Option bq:=match c with| .val (.bool h)=>(match a,b with| .val (.bool x), .val (.bool y)=>ret o (.val (.bool (if h then x else y)))|eP,gU=>ret o (if h then eP else gU))|_=>none
def Ms(l:List Nat):Nat→List U→List U|_,[]=>[]|j,c::cs=>(match c with| .own [] 0=>if l.contains j then .sl []else c| .cw=>if l.contains j then .sl []else c|c=>c)::Ms l (j+1) cs
def uW(l:List Nat)(cs:List U):List U:=match l with|[]=>cs|l=>Ms l 0 cs
def DB(C:aG)(f:FuncId)(o:Oper)(cs:List U):List U:=match o.dst with|some d=>uW (C.uV f d) cs|none=>cs
def l9:U→Bool| .val (.bool h)=>h|_=>false
def r3(C:aG)(f:FuncId)(S:ah)(o:Oper)(t:TypeId):Option bq:=match xF C t,o.dst with|some cs,some d=>if(S.h [d]).isNone then some (put o (.mp [d] 0 0) [] [([d],some [uW (C.uV f d) cs])])else none|_,_=>none
def pK(C:aG)(f:FuncId)(S:ah)(o:Oper)(t:TypeId)(x:U):Option bq:=match kI C t,o.dst with|some b,some d=>(match ox b x with|some cs=>if eJ C f o.dst&&eA (kK cs)then ret o (.aD (kK cs))else if(S.h [d]).isNone then some (put o (.mp [d] 0 0) [] [([d],some [cs])])else none|none=>none)|_,_=>none
def tC(C:aG)(f:FuncId)(o:Oper)(t:TypeId)(parts:List (Nat×U)):Option bq:=match xE C t,La C t with|some z,some pl=>(match vJ pl (DB C f o z) parts with|some cs=>ret o (.agg cs)|none=>none)|_,_=>none
def r5(C:aG)(f:FuncId)(S:ah)(o:Oper)(t:TypeId)(len:Nat)(parts:List (Nat×U)):Option bq:=match C.P.underlying t,o.dst with|some (.slice e),some d=>(match xE C e,kI C e,gJ C e with|some z,some b,some n=>if decide (0<n)&&decide (n=z.length)&&decide (len*n≤1000)then match r9 n b (AC len z) parts with|some rows=>if eJ C f o.dst&&iJ (rows.map kK)then ret o (.sl (rows.map kK))else if(S.h [d]).isNone then some (put o (.rs [d] 0 len) [] [([d],some rows)])else none|none=>none else none|_,_,_=>none)|_,_=>none
def x8(C:aG)(t:TypeId)(len:Nat)(parts:List (Nat×U)):Option Rows:=match C.P.underlying t with|some (.slice e)=>(match xE C e,kI C e,gJ C e with|some z,some b,some n=>if decide (0<n)&&decide (n=z.length)&&decide (len*n≤1000)then r9 n b (AC len z) parts else none|_,_,_=>none)|_=>none
def Hx(C:aG)(f:FuncId)(o:Oper)(t:TypeId)(len:Nat)(parts:List (Nat×U)):Bool:=eJ C f o.dst&&(match x8 C t len parts with|some rows=> !iJ (rows.map kK)|none=>false)
def AY(C:aG)(S:ah)(o:Oper)(t:TypeId)(len:Nat)(parts:List (Nat×U)):Option bq:=match x8 C t len parts,o.dst with|some rows,some _=>(match lz (pk S.h 8) rows with|some (bn,ids)=>if dP ids then some (put o (.sl (jT bn)) ids (ids.map fun i=>(i,none)))else none|none=>none)|_,_=>none
def pL(C:aG)(f:FuncId)(S:ah)(o:Oper)(t:TypeId)(len:Nat)(parts:List (Nat×U)):Option bq:=if Hx C f o t len parts then AY C S o t len parts else r5 C f S o t len parts
def iF(o:Oper):Id:=match o.dst with|some d=>[d]|none=>[1000000]
def kY(C:aG)(S:ah)(o:Oper)(t:TypeId)(a:U):Option bq:=match kI C t,gJ C t with|some b,some n=>(match a with| .aD cells=>if n≤cells.length then(iL b (cells.take n)).map fun v=>put o v [] []else none| .mp id row off=>(match S.h id with|some (some rows)=>(rows[row]?).bind fun r=>if off+n≤r.length then if(bU (iF o) 0 ((r.drop off).take n)).2.isEmpty then(iL b (bU (iF o) 0 ((r.drop off).take n)).1).map fun v=>put o v [id] []else if fresh S.h (bU (iF o) 0 ((r.drop off).take n)).2 then(iL b (bU (iF o) 0 ((r.drop off).take n)).1).map fun v=>put o v [id] ((id,some (rows.set row (r.take off++(bU (iF o) 0 ((r.drop off).take n)).1++r.drop (off+n))))::(bU (iF o) 0 ((r.drop off).take n)).2)else none else none|_=>none)|_=>none)|_,_=>none
def vL(C:aG)(f:FuncId)(a:Operand):Option Nat:=match a with| .tmp ta=>if(C.eD f).contains ta then some ta else none|_=>none
def nE(C:aG)(f:FuncId)(S:ah)(g:Bool)(o:Oper)(t:TypeId)(ao:Operand)(a x:U):Option bq:=match kI C t,gJ C t with|some b,some n=>(match a,ox b x with| .mp id row off,some cs=>if cs.length≠n then none else(match S.h id with|some (some rows)=>(rows[row]?).bind fun r=>if off+n≤r.length then match vL C f ao with|some ta=>if decide (off=0)&&decide (n=r.length)&&decide (rows.length=1)&&decide (row=0)&&eA (kK cs)&&g&&o.dst.isNone then some {dz:=[(ta, .aD (kK cs))],rd:=[id],wr:=[(id,none)]}else none|none=>if o.dst.isNone then some (put o .br [id] [(id,some (rows.set row (r.take off++cs++r.drop (off+n))))])else none else none|_=>none)|_,_=>none)|_,_=>none
def A1(o:Oper):U→Option bq| .aD cs=>ret o (.aD cs)| .mp id row off=>ret o (.mp id row off)| .fn (.func k) a b=>ret o (.fn (.func k) a b)|_=>none
def eS(P:Program)(op:BinOp)(t:TypeId)(x y:Operand)(a b:Value):Option Value:=cZ P (do eqGuard op t x y a b;binOp op t a b)
def Dx(P:Program)(op:UnOp)(a:Value):Option Value:=cZ P (Op.unary op a)
def Ej(P:Program)(src dst:TypeId)(a:Value):Option Value:=cZ P (convert src dst a)
def Ft(P:Program)(ts:Array TypeId)(t:TypeId)(vs:List Value):Option Value:=cZ P (Builtin.max_ ts t ⟨vs⟩)
def Fv(P:Program)(ts:Array TypeId)(t:TypeId)(vs:List Value):Option Value:=cZ P (Builtin.min_ ts t ⟨vs⟩)
def Kq(op:BinOp)(a b:U):Option Bool:=match op,a,b with| .eql, .nn, .val .nilIface=>some false| .eql, .val .nilIface, .nn=>some false| .neq, .nn, .val .nilIface=>some true| .neq, .val .nilIface, .nn=>some true|_,_,_=>none
def Sb(op:BinOp)(a b:U):Option Bool:=match op,a,b with| .eql, .aD _, .val (.pointer none)=>some false| .neq, .aD _, .val (.pointer none)=>some true|_,_,_=>none
def r4(C:aG)(o:Oper)(op:BinOp)(t:TypeId)(x y:Operand)(a b:U):Option bq:=match ob a,ob b with|some a,some b=>lB o (eS C.P op t x y a b)|_,_=>match C.P.underlying t,Kq op a b with|some (.interface _),some r=>ret o (.val (.bool r))|some (.pointer _),_=>(match Sb op a b with|some r=>ret o (.val (.bool r))|none=>none)|_,_=>none
def tF(C:aG)(o:Oper)(t:TypeId)(x:U):Option bq:=match C.P.underlying t with|some (.interface _)=>none|some _=>(match x with| .val v=>if eB (.iface t v)then ret o (.val (.iface t v))else ret o .nn|_=>ret o .nn)|none=>none
def vH(C:aG)(o:Oper)(op:UnOp):U→Option bq| .val a=>lB o (Dx C.P op a)|_=>none
def AZ(C:aG)(o:Oper)(src dst:TypeId):U→Option bq| .val a=>lB o (Ej C.P src dst a)|_=>none
def tr(C:aG)(src dst:TypeId):Bool:=match C.P.underlying src,C.P.underlying dst with|some _,some (.slice e)=>(match C.P.underlying e with|some (.int .u8)=>true|_=>false)|_,_=>false
def AL(s:ByteArray):Rows:=s.data.toList.map fun b=>[.val (.int .u8 b.toNat)]
def Eo(o:Oper):U→Option bq| .val (.string s)=>ret o (.sl (AL s))|_=>none
def r6(C:aG)(o:Oper)(src dst:TypeId)(x:U):Option bq:=if tr C src dst then Eo o x else AZ C o src dst x
def r7(C:aG)(S:ah)(o:Oper)(t:TypeId)(l c:U):Option bq:=match C.P.underlying t,o.dst,eo l,eo c with|some (.slice e),some d,some l,some c=>(match xF C e,C.P.info? e with|some z,some i=>if decide (0<z.length)&&decide (i.size=z.length)&&decide (i.bytes≤4096)&&decide (0≤l∧l≤c∧c≤4294967296∧(0<l∨c=0))&&(S.h [d]).isNone then some (put o (.rs [d] 0 l.toNat) [] [([d],some (AC l.toNat z))])else none|_,_=>none)|_,_,_,_=>none
def bounds(lo hi:Option (Option Int))(len:Nat):Option (Nat×Nat):=match(match lo with|none=>some 0|some l=>l),(match hi with|none=>some (len:Int)|some h=>h)with|some l,some h=>if 0≤l∧l≤h∧h≤len then some (l.toNat,h.toNat)else none|_,_=>none
def nD(C:aG)(S:ah)(o:Oper)(t:TypeId)(x:U)(lo hi:Option (Option Int)):Option bq:=match C.P.underlying t with|some (.slice e)=>(match x,gJ C e with| .sl rows,some sz=>(bounds lo hi rows.length).bind fun b=>if 0<sz∧rows.all (·.length==sz)then ret o (.sl ((rows.take b.2).drop b.1))else none| .rs id off len,some sz=>(match S.h id with|some (some rows)=>(bounds lo hi len).bind fun b=>if off+len≤rows.length∧0<sz∧rows.all (·.length==sz)then some (put o (.rs id (off+b.1) (b.2-b.1)) [id] [])else none|_=>none)|_,_=>none)|some .string=>(match x with| .val (.string s)=>(bounds lo hi s.size).bind fun b=>ret o (.val (.string (s.extract b.1 b.2)))|_=>none)|_=>none
def A4(C:aG)(s:TypeId)(i:Nat):Option (Nat×Nat×Bool):=match C.P.underlying s with|some (.struct fields)=>(match fields[i]? with|some fl=>(match gJ C fl.type,kI C fl.type with|some n,some b=>some (fl.offset,n,b)|_,_=>none)|none=>none)|_=>none
def tD(C:aG)(f:FuncId)(o:Oper)(s:TypeId)(i:Nat)(x:U):Option bq:=match A4 C s i with|some (off,n,_)=>(match x with| .aD cells=>if 0<n∧off≤cells.length then(if eJ C f o.dst then(if off+n≤cells.length then ret o (.aD ((cells.drop off).take n))else none)else ret o (.aD (cells.drop off)))else none| .mp id row off'=>if 0<n then ret o (.mp id row (off'+off))else none|_=>none)|none=>none
def yq(C:aG)(o:Oper)(s:TypeId)(i:Nat)(x:U):Option bq:=match A4 C s i with|some (off,n,b)=>(match x with| .agg cells=>if off+n≤cells.length then(iL b ((cells.drop off).take n)).map fun v=>put o v [] []else none|_=>none)|none=>none
def mc(C:aG)(S:ah)(o:Oper)(t:TypeId)(x:U)(i:Option Int):Option bq:=match C.P.underlying t,i with|some (.slice e),some i=>(match gJ C e,x with|some n, .sl rows=>if 0≤i then(rows[i.toNat]?).bind fun r=>if r.length=n∧0<n then ret o (.aD r)else none else none|some n, .rs id off len=>if 0≤i∧i<len then match S.h id with|some (some rows)=>(rows[off+i.toNat]?).bind fun r=>if r.length=n then some (put o (.mp id (off+i.toNat) 0) [id] [])else none|_=>none else none|_,_=>none)|some (.array len e),some i=>(match gJ C e,x with|some n, .aD cells=>if 0≤i∧i<len∧i.toNat*n≤cells.length then ret o (.aD (cells.drop (i.toNat*n)))else none|some n, .mp id row off=>if 0≤i∧i<len then ret o (.mp id row (off+i.toNat*n))else none|_,_=>none)|_,_=>none
def tG(C:aG)(o:Oper)(t:TypeId)(x:U)(i:Option Int):Option bq:=match C.P.underlying t,i,x with|some .string,some i, .val (.string s)=>if 0≤i then(s[i.toNat]?).bind fun b=>ret o (.val (.int .u8 b.toNat))else none|some (.array len e),some i, .agg cells=>(match gJ C e,kI C e with|some n,some b=>if 0≤i∧i<len∧(i.toNat+1)*n≤cells.length then(iL b ((cells.drop (i.toNat*n)).take n)).map fun v=>put o v [] []else none|_,_=>none)|_,_,_=>none
def yp(o:Oper)(x:U)(i:Nat):Option bq:=match x with| .aS vs=>(match vs[i]? with|some v=>ret o v|none=>none)|_=>none
def qO(C:aG)(o:Oper)(ts:Array TypeId)(xs:List U):Option bq:=match xs with|[x]=>(match(ts[0]?).bind C.P.underlying with|some d=>(match Cr d x with|some n=>ret o (tL n)|none=>none)|none=>none)|_=>none
def pP(C:aG)(f:FuncId)(o:Oper)(e:bq):Option bq:=if eJ C f o.dst then match o.dst,e.wr with|some d,[(id,none),(d',some rows)]=>if d'=[d]∧iJ rows=true then some (put o (.sl rows) e.rd [(id,none),([d],none)])else none|some d,[(d',some rows)]=>if d'=[d]∧iJ rows=true then some (put o (.sl rows) e.rd [([d],none)])else none|_,_=>none else some e
def lH(C:aG)(S:ah)(o:Oper)(ts:Array TypeId)(xs:List U):Option bq:=match xs,ts[0]?,(ts[1]?).bind C.P.underlying with|[x,y],some t,some (.slice _)=>xZ C S o t x y|[x,y],some t,some (.int _)=>x4 C S o t x y|_,_,_=>none
def pathOf(C:aG):Operand→Option (Nat×Nat)| .func k=>C.path k|_=>none
def tH(S:ah)(o:Oper)(p:Nat×Nat):List U→Option bq|[.mp id row off]=>(match S.h id with|some (some rows)=>(match(rows[row]?).bind fun r=>r[off+p.1]? with|some (.rs gw off2 len)=>(match S.h gw with|some (some eV)=>if decide (0<len)&&decide (len≤nV)&&decide (off2+len≤eV.length)&&eV.all (·.length==p.2)then some (put o (.mp gw (off2+(len-1)) 0) [id,gw] [])else none|_=>none)|_=>none)|_=>none)|[.aD cells]=>(match cells[p.1]? with|some (.sl rows)=>if decide (rows.length≤nV)&&rows.all (·.length==p.2)then(rows[rows.length-1]?).map fun r=>put o (.aD r) [] []else none|_=>none)|_=>none
def FQ:List U→Bool|[.val _]=>true|_=>false
def vG(C:aG)(S:ah)(o:Oper)(ts:Array TypeId)(xs:List U):Option bq:=match xs,(ts[0]?).bind C.P.underlying with|[x,y],some (.slice e)=>(match gJ C e,x,rowsOf S.h y with|some 1, .rs id off len,some (ys,i2)=>(match S.h id with|some (some rows)=>if ys.all FQ&&rows.all (·.length==1)&&decide (off+len≤rows.length)then some (put o (tL ((min ys.length len:Nat):Int)) (id::i2) [(id,some (rows.take off++ys.take (min ys.length len)++rows.drop (off+min ys.length len)))])else none|_=>none)|_,_,_=>none)|_,_=>none
/-! Maps: keys and values of one cell without an address. -/
def LI:TypeDesc→Bool| .int _| .string| .bool=>true|_=>false
def wV(L:Id→Option (Option Rows)):U→Option (Rows×List Id)| .mr id=>(match L id with|some (some rows)=>some (rows,[id])|_=>none)| .im rows=>some (rows,[])| .val (.map none)=>some ([],[])|_=>none
def oF(kind:TypeDesc)(k:Value):Rows→Option (Option Value)|[]=>some none|[.val k', .val v]::rs=>(match Instr.sameNow kind k k' with|some true=>some (some v)|some false=>oF kind k rs|none=>none)|_=>none
def w9(kind:TypeDesc)(k v:Value):Rows→Option Rows|[]=>some [[.val k, .val v]]|[.val k', .val v']::rs=>(match Instr.sameNow kind k k' with|some true=>some ([.val k, .val v]::rs)|some false=>(w9 kind k v rs).map fun y=>[.val k', .val v']::y|none=>none)|_=>none
def LD(C:aG)(t:TypeId):Option Value:=match(C.P.info? t).bind (·.zero)with|some v=>if eB v then some v else none|none=>none
def zk(C:aG)(t:TypeId):Option (TypeDesc×Value):=match C.P.underlying t with|some (.map kt et)=>(match C.P.underlying kt,LD C et with|some kind,some z=>if LI kind then some (kind,z)else none|_,_=>none)|_=>none
def r8(C:aG)(S:ah)(o:Oper)(t:TypeId)(r:Option Operand):Option bq:=match zk C t,o.dst with|some _,some d=>if r.isNone&&(S.h [d]).isNone then some (put o (.mr [d]) [] [([d],some [])])else none|_,_=>none
def pM(C:aG)(S:ah)(o:Oper)(t:TypeId)(x k:U)(ok:Bool):Option bq:=match zk C t,wV S.h x,k with|some (kind,z),some (rows,ids), .val kv=>(oF kind kv rows).map fun r=>put o (if ok then .aS [.val (r.getD z), .val (.bool r.isSome)]else .val (r.getD z)) ids []|_,_,_=>none
def pN(C:aG)(S:ah)(o:Oper)(t:TypeId)(x k v:U):Option bq:=match zk C t,x,k,v with|some (kind,_), .mr id, .val kv, .val nr=>(match S.h id with|some (some rows)=>if eB kv&&eB nr&&o.dst.isNone then(w9 kind kv nr rows).map fun bn=>put o .br [id] [(id,some bn)]else none|_=>none)|_,_,_,_=>none
/-! Names that keep their place through a body: they end with a mark. -/
def iq:Nat:=999999
def jy:Id→Bool|[]=>false|[x]=>x==iq|_::y::l=>jy (y::l)
def ri(i q:Id):Id:=if jy i then i else if jy q then q++[0]else q
/-! What lives at a loop's head where names may be shared: the state itself, under names of its own. -/
def fR(l:List (Id×Id))(i:Id):Option Id:=match l with|[]=>none|(o,k)::l=>if o=i then some k else fR l i
def zL(l:List (Id×Id)):U→Option U| .rs i off len=>(fR l i).map fun k=> .rs k off len| .mp i row off=>(fR l i).map fun k=> .mp k row off| .mr i=>(fR l i).map fun k=> .mr k| .cw=>some .cw|a=>if flat a then some a else none
def zM(l:List (Id×Id)):List U→Option (List U)|[]=>some []|a::as=>match zL l a,zM l as with|some b,some bs=>some (b::bs)|_,_=>none
def uG(l:List (Id×Id)):U→Option U| .fn k as cs=>if cM as&&cM cs then some (.fn k as cs)else(match zM l as,zM l cs with|some x,some y=>some (.fn k x y)|_,_=>none)|a=>zL l a
def oY(l:List (Id×Id)):List U→Option (List U)|[]=>some []|a::as=>match uG l a,oY l as with|some b,some bs=>some (b::bs)|_,_=>none
def eZ(l:List (Id×Id)):U→U| .agg cs=>(match oY l cs with|some bs=> .agg bs|none=> .br)| .aS cs=>(match oY l cs with|some bs=> .aS bs|none=> .br)| .fn f as cs=>(match oY l as,oY l cs with|some bs,some ds=> .fn f bs ds|_,_=> .br)|a=>match uG l a with|some b=>b|none=> .br
def zP(l:List (Id×Id)):Rows→Option Rows|[]=>some []|r::rs=>match oY l r,zP l rs with|some b,some bs=>some (b::bs)|_,_=>none
def lX(l:List (Id×Id))(rows:Rows):Option Rows:=if en rows then some rows else zP l rows
def fh(L:Id→Option (Option Rows)):Nat→Id→Nat→List (Id×Id)→List U→List (Id×Id)|0,_,_,acc,_=>acc|_,_,_,acc,[]=>acc|n+1,p,j,acc,a::as=>fh L n p (j+1) (match a with| .rs i _ _=>if(fR acc i).isSome then acc else acc++[(i,ri i (j::p))]| .mr i=>if(fR acc i).isSome then acc else acc++[(i,ri i (j::p))]| .mp i _ _=>if(fR acc i).isSome then acc else(match L i with|some (some [cs])=>fh L n (j::p) 0 (acc++[(i,ri i (j::p))]) cs|_=>acc++[(i,ri i (j::p))])| .agg cs=>fh L n (j::p) 0 acc cs| .fn _ as cs=>if cM as&&cM cs then acc else fh L n (j::p) 0 acc (as++cs)|_=>acc) as
def oJ(L:Id→Option (Option Rows))(l:List (Id×Id)):List (Id×Id)→Option (List (Id×Rows))|[]=>some []|(o,k)::r=>match L o,oJ L l r with|some (some rows),some y=>(lX l rows).map fun bn=>(k,bn)::y|_,_=>none
def nc(l:List (Id×Id))(t:Nat→U):List Nat→Nat→U|[]=>fun _=> .br|s::r=>ak (nc l t r) s (eZ l (t s))
def jh:List (Id×Rows)→Id→Option (Option Rows)|[]=>fun _=>none|(k,rows)::r=>ak (jh r) k (some (some rows))
def names(S:ah)(slots:List Nat):List (Id×Id):=slots.foldl (fun acc s=>fh S.h 40 [s] 0 acc [S.t s]) []
def QD(keep:Id→Bool):U→Bool| .rs i _ _=>keep i| .mp i _ _=>keep i| .mr i=>keep i|a=>flat a
def zc(keep:Id→Bool)(l:List U):Bool:=l.all (QD keep)
def gD(L:Id→Option (Option Rows))(keep:Id→Bool):U→Option (U×List Id)| .rs i off len=>if keep i then some (.rs i off len,[])else pk L 8 (.rs i off len)| .mp i row off=>if keep i then some (.mp i row off,[])else pk L 8 (.mp i row off)| .mr i=>if keep i then some (.mr i,[])else pk L 8 (.mr i)| .cw=>some (.own [] 0,[])| .fn k as cs=>if zc keep as&&zc keep cs then some (.fn k as cs,[])else none|a=>if flat a then some (a,[])else none
def kV(L:Id→Option (Option Rows))(keep:Id→Bool)(r:List U):Option (List U×List Id):=if cM r then some (r,[])else dM (gD L keep) r
def sF(l:List (Id×Id))(i:Id):Bool:=(fR l i).isSome
/-! Graph calls: arguments as they stand, and the objects that they lead to. -/
def mR(C:aG):U→Option (FuncId×List U×List U)| .fn (.func k) first caps=>if C.gM k then some (k,first,caps)else none|_=>none
def dV(L:Id→Option (Option Rows)):Nat→Bool→Id→Nat→List (Id×Id)→List U→List (Id×Id)|0,_,_,_,acc,_=>acc|_,_,_,_,acc,[]=>acc|n+1,b,p,j,acc,a::as=>dV L n b p (j+1) (match a with| .rs i _ _=>if !b||(fR acc i).isSome then acc else acc++[(i,j::p)]| .mr i=>if !b||(fR acc i).isSome then acc else acc++[(i,j::p)]| .mp i _ _=>if(fR acc i).isSome then acc else(match L i with|some (some [cs])=>dV L n false (j::p) 0 (acc++[(i,j::p)]) cs|_=>acc++[(i,j::p)])| .agg cs=>dV L n b (j::p) 0 acc cs| .fn _ as cs=>dV L n true (j::p) 0 acc (as++cs)|_=>acc) as
def mN(L:Id→Option (Option Rows))(keep:Id→Bool)(rows:Rows):Option (Rows×List Id):=if en rows then some (rows,[])else dN (kV L keep) rows
def ir(L:Id→Option (Option Rows))(l:List (Id×Id)):List (Id×Id)→Option (List U×List Id)|[]=>some ([],[])|(o,k)::r=>match L o with|some (some rows)=>(mN L (sF l) rows).bind fun x=>(lX l x.1).bind fun bn=>(ir L l r).map fun y=>(.bl k bn::y.1,x.2++y.2)|_=>none
def iE(l':List (Id×Id)):List (Id×Id)→List U→Option (List (Id×Option Rows))|[],[]=>some []|(o,k)::r, .bl k' rows::outs=>if k'=k then(lX l' rows).bind fun bn=>(iE l' r outs).map fun y=>(o,some bn)::y else none|(o,_)::r, .br::outs=>(iE l' r outs).map fun y=>(o,none)::y|_,_=>none
structure xJ where
 r:U
 l:List (Id×Id)
 back:List (Id×Option Rows)
 gone:List Id
def Bf(call:FuncId→List U→Option (U×List U))(L:Id→Option (Option Rows))(k:FuncId)(args:List U)(l:List (Id×Id)):Option xJ:=match ir L l l with|some (obs,gone)=>if dP (l.map (·.1))&&dP (l.map (·.2))&&(l.all fun x=>jy x.2)&&dP gone&&rY gone (l.map (·.1))then match call k (.aS obs::args.map (eZ l))with|some (r,outs)=>(iE (l.map fun x=>(x.2,x.1)) l outs).map fun back=>⟨r,l,back,gone⟩|none=>none else none|none=>none
def qR(call:FuncId→List U→Option (U×List U))(L:Id→Option (Option Rows))(k:FuncId)(args:List U):Option xJ:=Bf call L k args (dV L 60 true [iq] 0 [] args)
def rB(L:Id→Option (Option Rows))(b:Id×Option Rows):Bool:=match L b.1,b.2 with|some (some [[.mp i r f]]),some [[.mp i' r' f']]=>i==i'&&r==r'&&f==f'|_,_=>false
def jQ(L:Id→Option (Option Rows))(back:List (Id×Option Rows)):List (Id×Option Rows):=back.filter fun b=> !rB L b
def y8:U→Bool| .zz _=>true|_=>false
def pG(C:aG)(f:FuncId)(call:FuncId→List U→Option (U×List U))(S:ah)(o:Oper)(k:FuncId)(args:List U):Option bq:=
 (qR call S.h k args).bind fun x=>
  if y8 x.r then none else
  let y:=imp (iF o) (eZ (x.l.map fun x=>(x.2,x.1)) (if eJ C f o.dst then(if flat x.r then dG x.r else .br)else x.r))
  if fresh S.h y.2 then some (put o y.1 (x.l.map (·.1)) (y.2++(jQ S.h x.back++x.gone.map fun i=>(i,none))))else none
def bA(C:aG)(f:FuncId)(call:FuncId→List U→Option (U×List U))(S:ah)(g:Bool)(o:Oper):Option bq:=match o.op with| .move x=>ret o (un g (S.get C x))| .assign x=>ret o (un g (S.get C x))| .pick c a b=>tI o (un g (S.get C c)) (un (g&&l9 (un g (S.get C c))) (S.get C a)) (un (g&& !l9 (un g (S.get C c))) (S.get C b))| .alloc t=>r3 C f S o t| .box t x=>pK C f S o t (un g (S.get C x))| .build t parts=>tC C f o t (parts.toList.map fun p=>(p.1,un g (S.get C p.2)))| .buildSlice t len parts=>pL C f S o t len (parts.toList.map fun p=>(p.1,un g (S.get C p.2)))| .load t a=>kY C S o t (un g (S.get C a))| .store t a x=>nE C f S g o t a (un g (S.get C a)) (un g (S.get C x))| .nilCheck x=>A1 o (un g (S.get C x))| .binOp op t x y _=>r4 C o op t x y (un g (S.get C x)) (un g (S.get C y))| .unOp op _ x=>vH C o op (un g (S.get C x))| .convert src dst x=>r6 C o src dst (un g (S.get C x))| .makeInterface t x=>tF C o t (un g (S.get C x))| .makeFunc fn first caps=>ret o (.fn fn (first.toList.map fun x=>un g (S.get C x)) (caps.toList.map fun x=>un g (S.get C x)))| .makeSlice t l c=>r7 C S o t (un g (S.get C l)) (un g (S.get C c))| .slice t x lo hi mx=>if mx.isSome then none else nD C S o t (un g (S.get C x)) (lo.map fun y=>eo (un g (S.get C y))) (hi.map fun y=>eo (un g (S.get C y)))| .fieldAddr s x i=>tD C f o s i (un g (S.get C x))| .field s x i=>yq C o s i (un g (S.get C x))| .indexAddr t x i=>mc C S o t (un g (S.get C x)) (eo (un g (S.get C i)))| .index t x i=>tG C o t (un g (S.get C x)) (eo (un g (S.get C i)))| .extract x i=>yp o (un g (S.get C x)) i| .makeMap t r=>r8 C S o t r| .lookup t x k ok=>pM C S o t (un g (S.get C x)) (un g (S.get C k)) ok| .mapUpdate t x k v=>pN C S o t (un g (S.get C x)) (un g (S.get C k)) (un g (S.get C v))| .insert t x k v=>pN C S o t (un g (S.get C x)) (un g (S.get C k)) (un g (S.get C v))| .call c=>(match c.callee with| .builtin .len=>qO C o c.argTypes (c.args.toList.map fun x=>un g (S.get C x))| .builtin .append=>(lH C S o c.argTypes (c.args.toList.map fun x=>un g (S.get C x))).bind (pP C f o)| .builtin .copy=>vG C S o c.argTypes (c.args.toList.map fun x=>un g (S.get C x))| .builtin .max=>(match iT (c.args.toList.map fun x=>un g (S.get C x))with|some vs=>lB o (Ft C.P c.argTypes o.type vs)|none=>none)| .builtin .min=>(match iT (c.args.toList.map fun x=>un g (S.get C x))with|some vs=>lB o (Fv C.P c.argTypes o.type vs)|none=>none)| .value cQ=>(match mR C (un g (S.get C cQ))with|some x=>pG C f call S o x.1 (x.2.1++(c.args.toList.map fun x=>un g (S.get C x))++x.2.2)|none=>match pathOf C cQ with|some p=>tH S o p (c.args.toList.map fun x=>un g (S.get C x))|none=>if zZ C cQ then(match cQ with| .func k=>qJ C f call S o k (c.args.toList.map fun x=>un g (S.get C x))|_=>none)else qI C f call S o (un g (S.get C cQ)) (c.args.toList.map fun x=>un g (S.get C x)))|_=>none)|_=>none
/-! ## Regions -/
def qS(S:ah)(ops:Array Oper)(o:Oper):Option Bool:=match o.guard with|none=>some true|some (j,want)=>match(ops[j]?).bind (·.dst)with|some d=>(match S.t d with| .val (.bool b)=>some (b==want)| .c8 g (.val (.bool b))=>some (g&&(b==want))| .c8 false _=>some false|_=>none)|none=>none
def y9(o:Oper):bq:=put o (.c8 false .br) [] []
def tE(C:aG)(f:FuncId)(call:FuncId→List U→Option (U×List U))(S:ah)(ops:Array Oper)(o:Oper):Option bq:=match qS S ops o with|none=>none|some g=>match o.guard with|none=>bA C f call S true o|some _=>match bA C f call S g o with|some e=>if e.wr.isEmpty then some {e with dz:=e.dz.map fun x=>(x.1, .c8 g x.2)}else if g then some e else some (y9 o)|none=>if g then none else some (y9 o)
abbrev iB:=Nat×List Id×List Id
def hkey(i:Nat)(e:bq)(l:List iB):List iB:=if e.rd.isEmpty&&e.wr.isEmpty then l else(i,e.rd,e.wr.map (·.1))::l
def lI(C:aG)(f:FuncId)(call:FuncId→List U→Option (U×List U))(ops:Array Oper):Nat→List Oper→ah→Option (ah×List iB)|_,[],S=>some (S,[])|i,o::l,S=>(tE C f call S ops o).bind fun e=>if e.dz.all fun x=>decide (x.1<S.n)then(lI C f call ops (i+1) l (S.app e)).map fun x=>(x.1,hkey i e x.2)else none
def ql(C:aG)(f:FuncId)(o:Oper):List Nat:=o.dst.toList++(match o.op with| .store _ a _=>(vL C f a).toList|_=>[])
def slotsOf(ops:Array Oper)(o:Oper):List Nat:=(o.op.operands.toList.filterMap fun| .tmp t=>some t|_=>none)++(match o.guard with|some (j,_)=>(match(ops[j]?).bind (·.dst)with|some d=>[d]|none=>[])|none=>[])
def AH(C:aG)(f:FuncId)(ops:Array Oper)(oi oj:Oper):Bool:=((ql C f oi).all fun x=> !(slotsOf ops oj).contains x&& !(ql C f oj).contains x)&&((ql C f oj).all fun y=> !(slotsOf ops oi).contains y)
def Cv(a s:List Nat):List Nat:=a.foldl (fun s x=>if s.contains x then s else x::s) s
def D5(ops:Array Oper):List (List Nat):=ops.toList.foldl (init:=[]) fun acc o=>acc++[o.after.toList.foldl (init:=[]) fun s e=>if Region.binds .any e then(if s.contains e.on then s else e.on::Cv (acc.getD e.on []) s)else s]
def zW(C:aG)(f:FuncId)(id:Nat)(ops:Array Oper):Bool:=
 let b:=D5 ops
 let l:=ops.toList.zipIdx
 Region.noSelect ops&&(l.all fun x=>l.all fun y=>if x.2<y.2 then(b.getD y.2 []).contains x.2||AH C f ops x.1 y.1 else true)&&
 (l.all fun x=>x.1.after.all fun e=> !Region.binds .any e||decide (e.on<x.2))&&(C.gX f id).all fun p=>(b.getD p.2 []).contains p.1
def rZ(a b:iB):Bool:=(a.2.2.all fun x=> !b.2.1.contains x&& !b.2.2.contains x)&&(b.2.2.all fun x=> !a.2.1.contains x)
def nN(gX:List (Nat×Nat)):List iB→Bool|[]=>true|x::l=>(l.all fun y=>gX.contains (x.1,y.1)||rZ x y)&&nN gX l
def oE(C:aG)(f:FuncId)(call:FuncId→List U→Option (U×List U))(id:Nat)(ops:Array Oper)(draw:Bool)(S:ah):Option ah:=(lI C f call ops 0 ops.toList S).bind fun x=>if draw then(if nN (C.gX f id) x.2 then some x.1 else none)else some x.1
/-! ## Code -/
def me:Code→Option Nat| .region id _ _=>some id| .seq a b=>(match me a with|some i=>some i|none=>me b)| .cond _ a b=>(match me a with|some i=>some i|none=>me b)| .block _ c=>me c| .loop c=>me c| .scope c=>me c|_=>none
def jD(L:Id→Option (Option Rows))(t:Nat→U):List Nat→Option (List U×List Id)|[]=>some ([],[])|s::l=>(pk L 9 (t s)).bind fun x=>(jD L t l).map fun y=>(x.1::y.1,x.2++y.2)
def jl(S:ah)(slots:List Nat):Option (List U):=match jD S.h S.t slots with|some (cm,ids)=>if dP ids then some cm else none|none=>none
def aL(n:Nat):List Nat→List U→ah
 |s::l,v::vs=>
  let S:=aL n l vs
  {n,t:=ak S.t s (imp [s] v).1,h:=bp S.h (imp [s] v).2}
 |_,_=>{n,t:=fun _=> .br,h:=fun _=>none}
def pH(keep:Id→Bool)(S:ah)(o:Id):Option ah:=match S.h o with|some (some rows)=>if en rows then some S else(match dN (kV S.h keep) rows with|some (bn,ids)=>if dP ids&& !ids.contains o then some ⟨S.n,S.t,bp S.h ((o,some bn)::ids.map fun i=>(i,none))⟩else none|none=>none)|_=>none
def js(keep:Id→Bool):List Id→ah→Option ah|[],S=>some S|o::l,S=>(pH keep S o).bind (js keep l)
def qa(S:ah)(s:Nat):ah:=match S.t s,S.h [s,s]with| .cw,none=>⟨S.n,ak S.t s (.rs [s,s] 0 0),ak S.h [s,s] (some (some []))⟩|_,_=>S
def j3:List Nat→ah→ah|[],S=>S|s::l,S=>j3 l (qa S s)
def sK(l:List (Id×Id))(slots:List Nat)(S:ah):Option ah:=if dP (l.map (·.1))&&dP (l.map (·.2))&&l.all (fun x=> !jy x.2||x.1==x.2)then(oJ S.h l l).map fun hl=>⟨S.n,nc l S.t slots,jh hl⟩else none
def CA(S:ah)(slots:List Nat)(l:List (Id×Id)):Option ah:=(js (sF l) (l.map (·.1)) S).bind (sK l slots)
def norm(S:ah)(slots:List Nat):Option ah:=CA (j3 slots S) slots (names (j3 slots S) slots)
def dm(o:Option (Bool×List Nat))(S:ah):Option ah:=match o with|none=>some S|some (true,l)=>norm S l|some (false,l)=>(jl S l).map (aL S.n l)
def gT(C:aG)(f:FuncId)(b:Code):Option (Bool×List Nat):=match me b with|some i=>C.Ek f i|none=>none
def nH(S:ah)(s:Nat):Option ah:=match pk S.h 9 (S.t s)with|some (v,ids)=>if dP ids then some ⟨S.n,ak S.t s (dG v),bp S.h (ids.map fun i=>(i,none))⟩else none|none=>none
def mQ(S:ah)(s:Nat):Option ah:=match S.t s with| .mp id 0 0=>(match S.h id with|some (some [cells])=>if eA cells then some ⟨S.n,ak S.t s (.aD cells),ak S.h id (some none)⟩else none|_=>none)| .rs _ _ _=>nH S s| .cw=>nH S s| .mr _=>nH S s| .sl _=>some S|_=>none
def kE:List Nat→ah→Option ah|[],S=>some S|s::l,S=>(mQ S s).bind (kE l)
def qf(p:Nat)(S:ah)(s:Nat):Option ah:=match S.t s with| .mp id _ _=>(match S.h id with|some (some [r])=>if(bU [p,s] 0 r).2.isEmpty then some S else if s<S.n∧fresh S.h (bU [p,s] 0 r).2=true then some ⟨S.n,S.t,bp S.h ((id,some [(bU [p,s] 0 r).1])::(bU [p,s] 0 r).2)⟩else none|_=>none)|_=>none
def lU(p:Nat):List Nat→ah→Option ah|[],S=>some S|s::l,S=>(qf p S s).bind (lU p l)
def oA(C:aG)(f:FuncId)(id:Nat)(S:ah):Option ah:=(lU (1000+id) (C.iP f id) S).bind fun bD=>(kE (C.jU f id) bD).bind (dm (C.jb f id))
abbrev mG:=(α:Type)→(α→Option (Exit×ah))→(ah→Option α)→α→Option (Exit×ah)
def ie{α:Type}(g:α→Option (Exit×ah))(rn:ah→Option α):Nat→α→Option (Exit×ah)|0,_=>none|n+1,cm=>(g cm).bind fun x=>match x.1 with| .normal=>(rn x.2).bind (ie g rn n)|_=>some x
/-! A range over a function: each round begins with the slots of the loop's entry, and with what has been yielded. -/
def sN(t:Nat→U):List (Nat×U)→Nat→U|[]=>t|(p,v)::l=>sN (ak t p v) l
def C6(S:ah)(ps:List Nat)(y:List U):Option ah:=if ps.length=y.length∧(ps.all fun p=>decide (p<S.n))=true then some ⟨S.n,sN S.t (ps.zip y),S.h⟩else none
def pO(g:ah→Option (Exit×ah))(rn:ah→Option ah)(ps:List Nat):List (List U)→ah→Option (Exit×ah)|[],S=>some (.normal,S)|y::ys,S=>(C6 S ps y).bind fun bD=>(g bD).bind fun x=>(rn x.2).bind fun cX=>match x.1 with| .normal=>pO g rn ps ys cX| .ret=>some (.ret,cX)| .exit i=>some (.exit i,cX)|_=>none
def Sm(assign body:Code):Option Nat:=match me assign with|some i=>some i|none=>me body
def xg(C:aG)(f:FuncId)(assign body:Code):List Nat:=match Sm assign body with|some i=>C.live f i|none=>[]
def xe(C:aG)(f:FuncId)(assign body:Code):Option (Bool×List Nat):=some (match Sm assign body with|some i=>C.shr f i|none=>false,xg C f assign body)
def zH(C:aG)(x:U):Option (List (List U)):=match x with
 | .fn (.func k) [] caps=>if eA caps then(C.iter k).bind (· caps)else none
 |_=>none
def ct(C:aG)(f:FuncId)(call:FuncId→List U→Option (U×List U))(bX:mG):Code→ah→Option (Exit×ah)
 | .skip,S=>some (.normal,S)
 | .label _,S=>some (.normal,S)
 | .exit id,S=>some (.exit id,S)
 | .ret,S=>some (.ret,S)
 | .region id ops draw,S=>((kE (C.k5 f id) S).bind fun fH=>(oE C f call id ops draw fH).bind (oA C f id)).map fun S'=>(.normal,S')
 | .seq a b,S=>(ct C f call bX a S).bind fun x=>match x.1 with
  | .normal=>(dm (gT C f b) x.2).bind (ct C f call bX b)
  |_=>some x
 | .cond c a b,S=>match un true (S.get C c)with
  | .val (.bool t)=>if t then ct C f call bX a S else ct C f call bX b S
  |_=>none
 | .block id c,S=>(ct C f call bX c S).bind fun x=>match(match x.1 with| .exit i=>if i=id then .normal else .exit i|e=>e:Exit)with
  | .normal=>(dm (C.oz f id) x.2).map fun S'=>(.normal,S')
  |e=>some (e,x.2)
 | .loop c,S=>
  let slots:=match me c with|some i=>C.live f i|none=>[]
  if(match me c with|some i=>C.shr f i|none=>false)then
   (norm S slots).bind fun bD=>bX ah (fun S'=>ct C f call bX c S') (fun S'=>norm S' slots) bD
  else(jl S slots).bind fun cm=>bX (List U) (fun cm=>ct C f call bX c (aL S.n slots cm)) (fun S'=>jl S' slots) cm
 | .rangeFunc g ps assign body,S=>(zH C (un true (S.get C g))).bind fun ys=>(dm (xe C f assign body) S).bind
   (pO (fun bD=>(ct C f call bX assign bD).bind fun x=>match x.1 with| .normal=>ct C f call bX body x.2|_=>none) (dm (xe C f assign body)) ps.toList ys)
 |_,_=>none
/-! ## Functions -/
def uH(C:aG)(S:ah):ResultVar→Option (U×List Id)| .tmp t=>pk S.h 9 (un true (S.t t))| .cell a ty=>match kI C ty,gJ C ty,un true (S.t a)with|some b,some n, .aD cells=>if n≤cells.length then((iL b (cells.take n)).bind (pk S.h 9))else none|some b,some n, .mp id row off=>(match S.h id with|some (some rows)=>(match rows[row]? with|some r=>if off+n≤r.length then((iL b ((r.drop off).take n)).bind (pk S.h 9)).map fun x=>(x.1,id::x.2)else none|none=>none)|_=>none)|_,_,_=>none
def ku(C:aG)(S:ah):List ResultVar→Option (List U×List Id)|[]=>some ([],[])|r::l=>(uH C S r).bind fun x=>(ku C S l).map fun y=>(x.1::y.1,x.2++y.2)
def finish(C:aG)(fn:Func)(cv:List Nat)(_args:List U)(S:ah):Option (U×List U):=match ku C S fn.results.toList,jD S.h S.t cv with|some (rs,i1),some (outs,i2)=>if dP (i1++i2)then some (match rs with|[r]=>r|_=> .aS rs,outs)else none|_,_=>none
/-! At the end of a call whose objects keep their places. -/
def mb(L:Id→Option (Option Rows))(keep:Id→Bool):U→Option (U×List Id)| .agg cs=>(dM (gD L keep) cs).map fun x=>(.agg x.1,x.2)|a=>gD L keep a
def uI(C:aG)(S:ah)(p:U→Option (U×List Id)):ResultVar→Option (U×List Id)| .tmp t=>p (un true (S.t t))| .cell a ty=>match kI C ty,gJ C ty,un true (S.t a)with|some b,some n, .aD cells=>if n≤cells.length then((iL b (cells.take n)).bind p)else none|some b,some n, .mp id row off=>(match S.h id with|some (some rows)=>(match rows[row]? with|some r=>if off+n≤r.length then((iL b ((r.drop off).take n)).bind p).map fun x=>(x.1,id::x.2)else none|none=>none)|_=>none)|_,_,_=>none
def lA(C:aG)(S:ah)(p:U→Option (U×List Id)):List ResultVar→Option (List U×List Id)|[]=>some ([],[])|r::l=>(uI C S p r).bind fun x=>(lA C S p l).map fun y=>(x.1::y.1,x.2++y.2)
def lQ:Option (Option Rows)→Bool|some (some _)=>true|_=>false
def kM(L:Id→Option (Option Rows))(keep:Id→Bool):List Id→Option (List U×List Id)|[]=>some ([],[])|k::r=>match L k with|some (some rows)=>(mN L keep rows).bind fun x=>(kM L keep r).map fun y=>(.bl k x.1::y.1,x.2++y.2)|_=>(kM L keep r).map fun y=>(.br::y.1,y.2)
def nS(ids:List Id)(S:ah):ah:=⟨S.n,S.t,bp S.h (ids.map fun i=>(i,none))⟩
def sd(C:aG)(fn:Func)(ks:List Id)(S:ah):Option (U×List U):=
 let al:=ks.filter fun k=>lQ (S.h k)
 let keep:Id→Bool:=fun i=>al.contains i
 match lA C S (mb S.h keep) fn.results.toList,kM S.h keep ks with
 |some (rs,i1),some (outs,i2)=>if dP (al++(i1++i2))then some (match rs with|[r]=>r|_=> .aS rs,outs)else none
 |_,_=>none
def jc(C:aG)(f:FuncId)(call:FuncId→List U→Option (U×List U))(bX:mG):Code→ah→Option (Exit×ah)| .seq (.region id ops draw) b,S=>if C.Em f id then match ops.toList,draw with|[o0,o1],false=>(match o1.op,o1.guard,o1.dst with| .defer ⟨.value (.tmp d),args,_⟩,none,none=>if args.isEmpty then(lI C f call ops 0 [o0] S).bind fun x=>match x.1.t d with| .fn (.func k) _ _=>if C.mX k then jc C f call bX b x.1 else none|_=>none else none|_,_,_=>none)|_,_=>none else(ct C f call bX (.region id ops draw) S).bind fun x=>(match x.1 with| .normal=>(dm (gT C f b) x.2).bind (jc C f call bX b)|_=>some x)| .seq a b,S=>(ct C f call bX a S).bind fun x=>(match x.1 with| .normal=>(dm (gT C f b) x.2).bind (jc C f call bX b)|_=>some x)|c,S=>ct C f call bX c S
def oB(C:aG)(f:FuncId):Code→Bool| .seq (.region id _ _) b=>C.Em f id||oB C f b| .seq _ b=>oB C f b|_=>false
def ux:List U→Option (List (Id×Rows))|[]=>some []| .bl i rows::l=>(ux l).map ((i,rows)::·)|_::_=>none
def xo(n:Nat)(ps:List U)(hl:List (Id×Rows)):ah:=⟨n,fun t=>ps.getD t .br,jh hl⟩
def A0(C:aG)(call:FuncId→List U→Option (U×List U))(bX:mG)(f:FuncId)(fn:Func)(c:Code):List U→Option (U×List U)| .aS obs::ps=>(match ux obs with|some hl=>if ps.length≤fn.ntmps∧fn.ntmps≤iq then((lU iq (C.iP f iq) (xo fn.ntmps ps hl)).bind (if oB C f c then jc C f call bX c else ct C f call bX c)).bind fun x=>match x.1 with| .normal=>sd C fn (hl.map (·.1)) (nS (C.qM f) x.2)| .ret=>sd C fn (hl.map (·.1)) (nS (C.qM f) x.2)|_=>none else none|none=>none)|_=>none
def qN(C:aG)(call:FuncId→List U→Option (U×List U))(bX:mG)(f:FuncId)(args:List U):Option (U×List U):=match C.ext f with|some g=>g args|none=>match C.P.funcs[f]? with|some fn=>(match fn.body with|some c=>if C.gM f then A0 C call bX f fn c args else if args.length≤fn.ntmps then(ct C f call bX c (aL fn.ntmps (List.range args.length) args)).bind fun x=>match x.1 with| .normal=>finish C fn (C.cv f) args x.2| .ret=>finish C fn (C.cv f) args x.2|_=>none else none|none=>none)|none=>none
end Go.Ab
