import Derived.Deep.Quiet
open List renaming replicate→GE
set_option linter.all false
namespace Go.Ab
open Go
theorem AC.{u}{c:Prop}{h:Decidable c}(hc:c){α:Sort u}{t e:α}:ite c t e=t:=if_pos hc
theorem Do.{u}{c:Prop}{h:Decidable c}(hc:¬c){α:Sort u}{t e:α}:ite c t e=e:=if_neg hc
abbrev Id:=List Nat
inductive U where|val(v:Value)|sl(rows:List (List U))|aA(cells:List U)|cz|rs(id:Id)(off len:Nat)|mp(id:Id)(row off:Nat)|fn(f:Fn)(first caps:List U)|agg(cells:List U)|aY(vs:List U)|own(rows:List (List U))(len:Nat)|aS(cells:List U)|dw(g:Bool)(x:U)|nn|mr(id:Id)|ey(rows:List (List U))|im(rows:List (List U))|bt(id:List Nat)(rows:List (List U))|AE(v:Value)|bB deriving Inhabited
abbrev Rows:=List (List U)
structure ah where
 n:Nat
 t:Nat→U
 h:Id→Option (Option Rows)
structure bz where
 dK:List (Nat×U)
 rd:List Id
 wr:List (Id×Option Rows)
def an{α β:Type}[DecidableEq α](f:α→β)(k:α)(v:β):α→β:=fun j=>if j=k then v else f j
def c8(t:Nat→U):List (Nat×U)→Nat→U|[]=>t|(i,v)::l=>an (c8 t l) i v
def bu(h:Id→Option (Option Rows)):List (Id×Option Rows)→Id→Option (Option Rows)|[]=>h|(i,r)::l=>an (bu h l) i (some r)
def ah.app(s:ah)(e:bz):ah:={n:=s.n,t:=c8 s.t e.dK,h:=bu s.h e.wr}
def eC:Value→Bool| .bool _| .int _ _| .float _ _| .string _| .pointer _| .nilFunc| .nilIface| .map none| .iface _ (.int _ _)| .iface _ (.string _)| .iface _ (.bool _)=>true|_=>false
def cS{α:Type}(P:Program):Sem α→Option α| .pure a=>some a| .program k=>cS P (k P)|_=>none
structure aL where
 P:Program
 cD:Nat→Option (List U)
 ext:FuncId→Option (List U→Option (U×List U))
 cA:FuncId→List Nat
 xR:FuncId→List Nat:=fun _=>[]
 shr:FuncId→Nat→Bool:=fun _ _=>false
 eF:FuncId→List Nat
 live:FuncId→Nat→List Nat
 iy:FuncId→Nat→List (Nat×Nat)
 ju:FuncId→Nat→Option (Bool×List Nat):=fun _ _=>none
 pn:FuncId→Nat→Option (Bool×List Nat):=fun _ _=>none
 Ft:FuncId→Nat→Option (Bool×List Nat):=fun _ _=>none
 path:FuncId→Option (Nat×Nat):=fun _=>none
 vI:FuncId→Nat→List Nat:=fun _ _=>[]
 iter:FuncId→Option (List U→Option (List (List U))):=fun _=>none
 look:FuncId→Bool:=fun _=>false
 ki:FuncId→Nat→List Nat:=fun _ _=>[]
 gW:FuncId→Bool:=fun _=>false
 jh:FuncId→Nat→List Nat:=fun _ _=>[]
 lI:FuncId→Nat→List Nat:=fun _ _=>[]
 rE:FuncId→List Id:=fun _=>[]
 Fv:FuncId→Nat→Bool:=fun _ _=>false
 nS:FuncId→Bool:=fun _=>false
 an9:FuncId→Nat→Bool:=fun _ _=>false
def ah.get(C:aL)(s:ah):Operand→U| .tmp t=>s.t t| .const v=>if eC v then .val v else(match v with| .slice none 0 0=> .cz|_=> .bB)| .global g=>(match C.cD g with|some cs=> .aA cs|none=> .bB)| .func f=> .fn (.func f) [] []
def un(g:Bool):U→U| .dw g' x=>if !g||g' then x else .bB|x=>x
def jl:List U→Option (List Value)|[]=>some []| .val v::l=>(jl l).map (v::·)|_::_=>none
def lX:U→Option Value| .val v=>some v| .agg cs=>(jl cs).map fun vs=> .agg ⟨vs⟩|_=>none
def Ls(v:Value):Option U:=if eC v then some (.val v)else match v with| .slice none 0 0=>some .cz|_=>none
def AB:List Value→Option (List U)|[]=>some []|v::l=>match Ls v with|some a=>(AB l).map (a::·)|none=>none
def yL(C:aL)(t:TypeId):Option (List U):=match(C.P.info? t).bind (·.zero)with|some v=>AB v.cells.toList|none=>none
def Lr(v:Value):Option U:=if eC v then some (.val v)else match v with| .slice none 0 0=>some (.own [] 0)|_=>none
def xX:List Value→Option (List U)|[]=>some []|v::l=>match Lr v with|some a=>(xX l).map (a::·)|none=>none
def yM(C:aL)(t:TypeId):Option (List U):=match(C.P.info? t).bind (·.zero)with|some v=>xX v.cells.toList|none=>none
def hO(C:aL)(t:TypeId):Option Nat:=(C.P.info? t).map (·.size)
def k3(C:aL)(t:TypeId):Option Bool:=(C.P.underlying t).map fun| .struct _=>true| .array _ _=>true|_=>false
def nz:U→U| .cz=> .sl []|x=>x
def kH(l:List U):List U:=l.map nz
def U.cell:U→Bool| .val _| .sl _| .aA _| .cz| .rs _ _ _| .mp _ _ _| .fn _ _ _| .nn| .mr _| .im _=>true|_=>false
def oh(Gy:Bool):U→Option (List U)| .agg cs=>if Gy&&cs.all U.cell then some cs else none|x=>if !Gy&&x.cell then some [x]else none
def jd(Gy:Bool)(cs:List U):Option U:=if Gy then some (.agg cs)else match cs with|[c]=>some c|_=>none
def bT(p:Id):Nat→List U→List U×List (Id×Option Rows)|_,[]=>([],[])|j,c::cs=>match c with| .own rows len=>(.rs (j::p) 0 len::(bT p (j+1) cs).1,(j::p,some rows)::(bT p (j+1) cs).2)| .aS cells=>(.mp (j::p) 0 0::(bT p (j+1) cs).1,(j::p,some [cells])::(bT p (j+1) cs).2)| .ey rows=>(.mr (j::p)::(bT p (j+1) cs).1,(j::p,some rows)::(bT p (j+1) cs).2)| .agg _=>(.bB::(bT p (j+1) cs).1,(bT p (j+1) cs).2)| .aY _=>(.bB::(bT p (j+1) cs).1,(bT p (j+1) cs).2)|c=>(c::(bT p (j+1) cs).1,(bT p (j+1) cs).2)
def eW(p:Id):Nat→List U→List U×List (Id×Option Rows)|_,[]=>([],[])|j,c::cs=>match c with| .own rows len=>(.rs (j::p) 0 len::(eW p (j+1) cs).1,(j::p,some rows)::(eW p (j+1) cs).2)| .aS cells=>(.mp (j::p) 0 0::(eW p (j+1) cs).1,(j::p,some [cells])::(eW p (j+1) cs).2)| .ey rows=>(.mr (j::p)::(eW p (j+1) cs).1,(j::p,some rows)::(eW p (j+1) cs).2)| .agg l=>(.agg (bT (j::p) 0 l).1::(eW p (j+1) cs).1,(bT (j::p) 0 l).2++(eW p (j+1) cs).2)| .aY _=>(.bB::(eW p (j+1) cs).1,(eW p (j+1) cs).2)|c=>(c::(eW p (j+1) cs).1,(eW p (j+1) cs).2)
def imp(p:Id):U→U×List (Id×Option Rows)| .own rows len=>(.rs p 0 len,[(p,some rows)])| .aS cells=>(.mp p 0 0,(p,some [(bT p 0 cells).1])::(bT p 0 cells).2)| .ey rows=>(.mr p,[(p,some rows)])| .agg l=>(.agg (bT p 0 l).1,(bT p 0 l).2)| .aY l=>(.aY (eW p 0 l).1,(eW p 0 l).2)|x=>(x,[])
mutual def flat:U→Bool| .rs _ _ _| .mp _ _ _| .dw _ _| .cz| .mr _=>false| .own rows _=>ei rows| .aS cells=>cY cells| .agg cells=>cY cells| .aY vs=>cY vs| .fn _ first caps=>cY first&&cY caps|_=>true def cY:List U→Bool|[]=>true|c::cs=>flat c&&cY cs def ei:List (List U)→Bool|[]=>true|r::rs=>cY r&&ei rs end
mutual def fA:U→Bool| .rs _ _ _| .mp _ _ _| .dw _ _| .cz| .own _ _| .aS _| .mr _| .ey _| .bB=>false| .agg cells=>eu cells| .aY vs=>eu vs| .fn _ first caps=>eu first&&eu caps|_=>true def eu:List U→Bool|[]=>true|c::cs=>fA c&&eu cs end
def iJ(rows:Rows):Bool:=rows.all eu
def dQ(p:U→Option (U×List Id)):List U→Option (List U×List Id)|[]=>some ([],[])|c::cs=>(p c).bind fun x=>(dQ p cs).map fun y=>(x.1::y.1,x.2++y.2)
def dr(p:List U→Option (List U×List Id)):Rows→Option (Rows×List Id)|[]=>some ([],[])|r::rs=>(p r).bind fun x=>(dr p rs).map fun y=>(x.1::y.1,x.2++y.2)
def fI(p:U→Option (U×List Id))(cs:List U):Option (List U×List Id):=if cY cs then some (cs,[])else dQ p cs
def jj(p:U→Option (U×List Id))(rs:Rows):Option (Rows×List Id):=if ei rs then some (rs,[])else dr (fI p) rs
def pk(L:Id→Option (Option Rows)):Nat→U→Option (U×List Id)|0,_=>none|n+1,a=>match a with| .rs id off len=>(match L id with|some (some rs)=>if off=0∧len≤rs.length then(jj (pk L n) rs).map fun x=>(.own x.1 len,id::x.2)else none|_=>none)| .mp id row off=>(match L id with|some (some [cs])=>if row=0∧off=0 then(fI (pk L n) cs).map fun x=>(.aS x.1,id::x.2)else none|_=>none)| .mr id=>(match L id with|some (some rs)=>some (.ey rs,[id])|_=>none)| .cz=>some (.own [] 0,[])| .agg cs=>(fI (pk L n) cs).map fun x=>(.agg x.1,x.2)| .aY cs=>(fI (pk L n) cs).map fun x=>(.aY x.1,x.2)| .fn f a b=>if eu a&&eu b then some (.fn f a b,[])else none| .dw _ _=>some (.bB,[])| .own rs len=>if ei rs then some (.own rs len,[])else none| .aS cs=>if cY cs then some (.aS cs,[])else none|a=>some (a,[])
def gx(p:U→Option (U×List Id))(cs:List U):Option (List U×List Id):=if eu cs then some (cs,[])else dQ p cs
def lu(p:U→Option (U×List Id))(rs:Rows):Option (Rows×List Id):=if iJ rs then some (rs,[])else dr (gx p) rs
def cj(L:Id→Option (Option Rows)):Nat→U→Option (U×List Id)|0,_=>none|n+1,a=>match a with| .rs id off len=>(match L id with|some (some rs)=>if off+len≤rs.length then(lu (cj L n) ((rs.drop off).take len)).map fun x=>(.sl x.1,id::x.2)else none|_=>none)| .mp id row off=>(match L id with|some (some rs)=>(match rs[row]? with|some r=>if off≤r.length then(gx (cj L n) (r.drop off)).map fun x=>(.aA x.1,id::x.2)else none|none=>none)|_=>none)| .mr id=>(match L id with|some (some rs)=>some (.im rs,[id])|_=>none)| .ey rs=>some (.im rs,[])| .own rs len=>(lu (cj L n) (rs.take len)).map fun x=>(.sl x.1,x.2)| .aS cs=>(gx (cj L n) cs).map fun x=>(.aA x.1,x.2)| .cz=>some (.sl [],[])| .agg cs=>(gx (cj L n) cs).map fun x=>(.agg x.1,x.2)| .aY cs=>(gx (cj L n) cs).map fun x=>(.aY x.1,x.2)| .fn f a b=>(gx (cj L n) a).bind fun x=>(gx (cj L n) b).map fun y=>(.fn f x.1 y.1,x.2++y.2)| .dw _ _=>some (.bB,[])|a=>some (a,[])
def rz(L:Id→Option (Option Rows))(as:List U):Option (List U×List Id):=dQ (cj L 9) as
/-! ## One operation -/
def put(o:Oper)(v:U)(rd:List Id)(wr:List (Id×Option Rows)):bz:={dK:=match o.dst with|some d=>[(d,v)]|none=>[],rd,wr}
def fresh(L:Id→Option (Option Rows))(l:List (Id×Option Rows)):Bool:=l.all fun x=>(L x.1).isNone
def DV(C:aL):List Field→Option (List (Nat×Nat×Bool))|[]=>some []|f::l=>match hO C f.type,k3 C f.type,DV C l with|some n,some b,some r=>some ((f.offset,n,b)::r)|_,_,_=>none
def L3(C:aL)(t:TypeId):Option (List (Nat×Nat×Bool)):=match C.P.underlying t with|some (.struct fields)=>DV C fields.toList|_=>none
def wR(place:List (Nat×Nat×Bool))(cells:List U):List (Nat×U)→Option (List U)|[]=>some cells|(i,v)::rest=>match place[i]? with|none=>none|some (off,n,b)=>match oh b v with|none=>none|some cs=>if cs.length=n∧off+n≤cells.length then wR place (cells.take off++cs++cells.drop (off+n)) rest else none
def rK(n:Nat)(b:Bool)(rows:Rows):List (Nat×U)→Option Rows|[]=>some rows|(i,v)::rest=>match oh b v with|none=>none|some cs=>if cs.length=n∧i<rows.length then rK n b (rows.set i cs) rest else none
def eB:U→Option Int| .val (.int _ n)=>some n|_=>none
def uB(n:Int):U:= .val (.int .i64 n)
def oJ:Nat:=4294967296
def rowsOf(L:Id→Option (Option Rows)):U→Option (Rows×List Id)| .sl rows=>some (rows,[])| .cz=>some ([],[])| .rs id off len=>(match L id with|some (some rs)=>if off+len≤rs.length then some ((rs.drop off).take len,[id])else none|_=>none)|_=>none
def qS(rows:Rows):Bool:=rows.all (·.all U.cell)
def sN(a b:List Id):Bool:=a.all fun x=> !b.contains x
def dV:List Id→Bool|[]=>true|x::l=> !l.contains x&&dV l
mutual def mine:U→Bool| .val _| .bB| .cz| .nn| .ey _=>true| .own rows _=>GG rows| .aS cells=>mz cells| .agg cells=>mz cells| .aY vs=>mz vs|_=>false def mz:List U→Bool|[]=>true|c::cs=>mine c&&mz cs def GG:List (List U)→Bool|[]=>true|r::rs=>mz r&&GG rs end
mutual def dF:U→U| .own rows len=> .sl ((gV rows).take len)| .aS cells=> .aA (iZ cells)| .ey rows=> .im rows| .agg cells=> .agg (iZ cells)| .aY vs=> .aY (iZ vs)|x=>x def iZ:List U→List U|[]=>[]|c::cs=>dF c::iZ cs def gV:List (List U)→List (List U)|[]=>[]|r::rs=>iZ r::gV rs end
def eL(C:aL)(f:FuncId)(d:Option Nat):Bool:=match d with|some d=>(C.eF f).contains d|none=>false
def AD:List U→Bool|[.val _]=>true|[.aA _]=>true|_=>false
def uY(S:ah)(o:Oper)(as:List U):Option bz:=match as with|[.val (.int .i64 i), .mp id 0 0, .aA cells]=>(match cells[4]?,S.h id with|some (U.sl ks),some (some [[.rs fX 0 n]])=>(match S.h fX,ks[i.toNat]? with|some (some rows),some [.val (.int .i64 c)]=>(match rows[c.toNat]? with|some [x]=>if 0≤i∧0≤c∧n=rows.length∧rows.all AD=true∧fA x=true∧o.dst.isSome=true then some (put o x [id,fX] [])else none|_=>none)|_,_=>none)|_,_=>none)|_=>none
def qj(C:aL)(f:FuncId)(call:FuncId→List U→Option (U×List U))(S:ah)(o:Oper)(fv:U)(args:List U):Option bz:=match fv with| .fn (.func k) first caps=>if C.look k then uY S o (first++args++caps)else(match rz S.h (first++args++caps),o.dst with|some (as,seen),some d=>(match call k as with|some (r,[])=>if !seen.isEmpty&& !mine r then none else if fresh S.h (imp [d] (if eL C f o.dst then dF r else r)).2 then some (put o (imp [d] (if eL C f o.dst then dF r else r)).1 seen (imp [d] (if eL C f o.dst then dF r else r)).2)else none|_=>none)|_,_=>none)|_=>none
def yy(C:aL):Operand→Bool| .func k=> !(C.xR k).isEmpty|_=>false
def j4(L:Id→Option (Option Rows)):List Nat→List U→Option (List U×List Id×List Id×List Id)|_,[]=>some ([],[],[],[])|ms,a::l=>(j4 L ms.tail l).bind fun y=>match ms.headD 0 with|1=>(pk L 9 a).map fun x=>(x.1::y.1,y.2.1,x.2++y.2.2.1,y.2.2.2)|2=>(pk L 9 a).map fun x=>(dF x.1::y.1,y.2.1,y.2.2.1,x.2++y.2.2.2)|_=>(cj L 9 a).map fun x=>(x.1::y.1,x.2++y.2.1,y.2.2.1,y.2.2.2)
def jE(L:Id→Option (Option Rows)):U→U→Option (List (Id×Option Rows))| .mp id 0 0, .aS cs=>(match L id with|some (some [old])=>if cs.length=old.length then some [(id,some [cs])]else none|_=>none)| .rs id 0 n, .own rows len=>(match L id with|some (some (o1::os))=>if len=n∧rows.length=n∧n=(o1::os).length∧rows.all (·.length==o1.length)then some [(id,some rows)]else none|some (some [])=>if len=0∧rows.length=0∧n=0 then some [(id,some [])]else none|_=>none)| .mr id, .ey rows=>(match L id with|some (some _)=>some [(id,some rows)]|_=>none)| .rs _ _ _,_=>none| .mp _ _ _,_=>none| .mr _,_=>none| .agg _,_=>none|_,_=>some []
def j0(L:Id→Option (Option Rows)):List U→List U→Option (List (Id×Option Rows))|[],[]=>some []|a::as,b::bs=>(match jE L a b,j0 L as bs with|some x,some y=>some (x++y)|_,_=>none)|_,_=>none
def se(L:Id→Option (Option Rows)):U→U→Option (List (Id×Option Rows))| .agg as, .agg bs=>j0 L as bs|a,b=>jE L a b
def hJ(L:Id→Option (Option Rows))(args:List U):List Nat→List U→Option (List (Id×Option Rows))|[],[]=>some []|j::l,b::bs=>(match args[j]?,hJ L args l bs with|some a,some y=>(match se L a b with|some x=>some (x++y)|none=>none)|_,_=>none)|_,_=>none
def rC(C:aL)(f:FuncId)(call:FuncId→List U→Option (U×List U))(S:ah)(o:Oper)(k:FuncId)(args:List U):Option bz:=match j4 S.h (C.xR k) args,o.dst with|some (as,seen,tk,dz),some d=>(match call k as with|some (r,outs)=>(match hJ S.h args (C.cA k) outs with|some back=>if dV (tk++dz)&&sN seen (tk++dz)&&(seen.isEmpty||mine r&&outs.all mine)&&dV (back.map (·.1))&&(back.all fun x=>tk.contains x.1)&&fresh S.h (imp [d] (if eL C f o.dst then dF r else r)).2 then some (put o (imp [d] (if eL C f o.dst then dF r else r)).1 seen ((imp [d] (if eL C f o.dst then dF r else r)).2++(back++(tk++dz).map fun i=>(i,none))))else none|none=>none)|none=>none)|_,_=>none
def EB(i:TypeInfo):Bool:=match i.zero with|some z=>z.cells.size==i.size|none=>false
def mL(S:ah)(o:Oper)(d m:Nat)(x:U)(xs ys:Rows)(i1 i2:List Id):Option bz:=match x with| .rs id off _=>(match S.h id with|some (some rows)=>if rows.all (·.length==m)&&decide (off=0)&&(!(xs++ys).isEmpty||rows.isEmpty)then some (put o (.rs [d] 0 (xs.length+ys.length)) (i1++i2) [(id,none),([d],some (xs++ys))])else none|_=>none)| .cz=>some (put o (.rs [d] 0 (xs.length+ys.length)) (i1++i2) [([d],some (xs++ys))])|_=>none
def y9(C:aL)(S:ah)(o:Oper)(t:TypeId)(x y:U):Option bz:=match C.P.underlying t,o.dst with|some (.slice e),some d=>(match C.P.info? e,rowsOf S.h x,rowsOf S.h y with|some i,some (xs,i1),some (ys,i2)=>if ys.all (·.length==i.size)&&decide (0<i.size)&&decide (i.bytes≤4096)&&EB i&&decide (xs.length+ys.length≤oJ)&&qS ys&&(S.h [d]).isNone then mL S o d i.size x xs ys i1 i2 else none|_,_,_=>none)|_,_=>none
def za(C:aL)(S:ah)(o:Oper)(t:TypeId)(x y:U):Option bz:=match C.P.underlying t,o.dst,eB y with|some (.slice e),some d,some n=>(match C.P.info? e,yM C e,rowsOf S.h x with|some i,some z,some (xs,i1)=>if decide (0≤n∧n≤4294967296)&&decide (z.length=i.size)&&decide (0<i.size)&&decide (i.bytes≤4096)&&EB i&&decide (xs.length+n.toNat≤oJ)&&z.all U.cell&&(S.h [d]).isNone then mL S o d i.size x xs (GE n.toNat z) i1 []else none|_,_,_=>none)|_,_,_=>none
def Dq:U→Option Nat| .sl rows=>some rows.length| .rs _ _ len=>some len| .cz=>some 0|_=>none
def Dp:TypeDesc→U→Option Nat| .string, .val (.string s)=>some s.size| .slice _,x=>Dq x|_,_=>none
def ret(o:Oper)(v:U):Option bz:=some (put o v [] [])
def kK(o:Oper):Option Value→Option bz|some v=>if eC v then ret o (.val v)else none|none=>none
def uz(o:Oper)(c a b:U):Option bz:=match c with| .val (.bool h)=>(match a,b with| .val (.bool x), .val (.bool y)=>ret o (.val (.bool (if h then x else y)))|e9,iu=>ret o (if h then e9 else iu))|_=>none
def Ng(l:List Nat):Nat→List U→List U|_,[]=>[]|j,c::cs=>(match c with| .own [] 0=>if l.contains j then .sl []else c| .cz=>if l.contains j then .sl []else c|c=>c)::Ng l (j+1) cs
def vJ(l:List Nat)(cs:List U):List U:=match l with|[]=>cs|l=>Ng l 0 cs
def EC(C:aL)(f:FuncId)(o:Oper)(cs:List U):List U:=match o.dst with|some d=>vJ (C.vI f d) cs|none=>cs
def mM:U→Bool| .val (.bool h)=>h|_=>false
def sQ(C:aL)(f:FuncId)(S:ah)(o:Oper)(t:TypeId):Option bz:=match yM C t,o.dst with|some cs,some d=>if(S.h [d]).isNone then some (put o (.mp [d] 0 0) [] [([d],some [vJ (C.vI f d) cs])])else none|_,_=>none
def qo(C:aL)(f:FuncId)(S:ah)(o:Oper)(t:TypeId)(x:U):Option bz:=match k3 C t,o.dst with|some b,some d=>(match oh b x with|some cs=>if eL C f o.dst&&eu (kH cs)then ret o (.aA (kH cs))else if(S.h [d]).isNone then some (put o (.mp [d] 0 0) [] [([d],some [cs])])else none|none=>none)|_,_=>none
def uu(C:aL)(f:FuncId)(o:Oper)(t:TypeId)(parts:List (Nat×U)):Option bz:=match yL C t,L3 C t with|some z,some pl=>(match wR pl (EC C f o z) parts with|some cs=>ret o (.agg cs)|none=>none)|_,_=>none
def sR(C:aL)(f:FuncId)(S:ah)(o:Oper)(t:TypeId)(len:Nat)(parts:List (Nat×U)):Option bz:=match C.P.underlying t,o.dst with|some (.slice e),some d=>(match yL C e,k3 C e,hO C e with|some z,some b,some n=>if decide (0<n)&&decide (n=z.length)&&decide (len*n≤1000)then match rK n b (GE len z) parts with|some rows=>if eL C f o.dst&&iJ (rows.map kH)then ret o (.sl (rows.map kH))else if(S.h [d]).isNone then some (put o (.rs [d] 0 len) [] [([d],some rows)])else none|none=>none else none|_,_,_=>none)|_,_=>none
def ze(C:aL)(t:TypeId)(len:Nat)(parts:List (Nat×U)):Option Rows:=match C.P.underlying t with|some (.slice e)=>(match yL C e,k3 C e,hO C e with|some z,some b,some n=>if decide (0<n)&&decide (n=z.length)&&decide (len*n≤1000)then rK n b (GE len z) parts else none|_,_,_=>none)|_=>none
def Fi(C:aL)(f:FuncId)(o:Oper)(t:TypeId)(len:Nat)(parts:List (Nat×U)):Bool:=eL C f o.dst&&(match ze C t len parts with|some rows=> !iJ (rows.map kH)|none=>false)
def zy(C:aL)(S:ah)(o:Oper)(t:TypeId)(len:Nat)(parts:List (Nat×U)):Option bz:=match ze C t len parts,o.dst with|some rows,some _=>(match jj (pk S.h 8) rows with|some (br,ids)=>if dV ids then some (put o (.sl (gV br)) ids (ids.map fun i=>(i,none)))else none|none=>none)|_,_=>none
def oo(C:aL)(f:FuncId)(S:ah)(o:Oper)(t:TypeId)(len:Nat)(parts:List (Nat×U)):Option bz:=if Fi C f o t len parts then zy C S o t len parts else sR C f S o t len parts
def iY(o:Oper):Id:=match o.dst with|some d=>[d]|none=>[1000000]
def lD(C:aL)(S:ah)(o:Oper)(t:TypeId)(a:U):Option bz:=match k3 C t,hO C t with|some b,some n=>(match a with| .aA cells=>if n≤cells.length then(jd b (cells.take n)).map fun v=>put o v [] []else none| .mp id row off=>(match S.h id with|some (some rows)=>(rows[row]?).bind fun r=>if off+n≤r.length then if(bT (iY o) 0 ((r.drop off).take n)).2.isEmpty then(jd b (bT (iY o) 0 ((r.drop off).take n)).1).map fun v=>put o v [id] []else if fresh S.h (bT (iY o) 0 ((r.drop off).take n)).2 then(jd b (bT (iY o) 0 ((r.drop off).take n)).1).map fun v=>put o v [id] ((id,some (rows.set row (r.take off++(bT (iY o) 0 ((r.drop off).take n)).1++r.drop (off+n))))::(bT (iY o) 0 ((r.drop off).take n)).2)else none else none|_=>none)|_=>none)|_,_=>none
def wU(C:aL)(f:FuncId)(a:Operand):Option Nat:=match a with| .tmp ta=>if(C.eF f).contains ta then some ta else none|_=>none
def ou(C:aL)(f:FuncId)(S:ah)(g:Bool)(o:Oper)(t:TypeId)(ao:Operand)(a x:U):Option bz:=match k3 C t,hO C t with|some b,some n=>(match a,oh b x with| .mp id row off,some cs=>if cs.length≠n then none else(match S.h id with|some (some rows)=>(rows[row]?).bind fun r=>if off+n≤r.length then match wU C f ao with|some ta=>if decide (off=0)&&decide (n=r.length)&&decide (rows.length=1)&&decide (row=0)&&eu (kH cs)&&g&&o.dst.isNone then some {dK:=[(ta, .aA (kH cs))],rd:=[id],wr:=[(id,none)]}else none|none=>if o.dst.isNone then some (put o .bB [id] [(id,some (rows.set row (r.take off++cs++r.drop (off+n))))])else none else none|_=>none)|_,_=>none)|_,_=>none
def zB(o:Oper):U→Option bz| .aA cs=>ret o (.aA cs)| .mp id row off=>ret o (.mp id row off)| .fn (.func k) a b=>ret o (.fn (.func k) a b)|_=>none
def eD(P:Program)(op:BinOp)(t:TypeId)(x y:Operand)(a b:Value):Option Value:=cS P (do eqGuard op t x y a b;binOp op t a b)
def Bp(P:Program)(op:UnOp)(a:Value):Option Value:=cS P (Op.unary op a)
def Fs(P:Program)(src dst:TypeId)(a:Value):Option Value:=cS P (convert src dst a)
def GD(P:Program)(ts:Array TypeId)(t:TypeId)(vs:List Value):Option Value:=cS P (Builtin.max_ ts t ⟨vs⟩)
def GF(P:Program)(ts:Array TypeId)(t:TypeId)(vs:List Value):Option Value:=cS P (Builtin.min_ ts t ⟨vs⟩)
def Le(op:BinOp)(a b:U):Option Bool:=match op,a,b with| .eql, .nn, .val .nilIface=>some false| .eql, .val .nilIface, .nn=>some false| .neq, .nn, .val .nilIface=>some true| .neq, .val .nilIface, .nn=>some true|_,_,_=>none
def Hj(op:BinOp)(a b:U):Option Bool:=match op,a,b with| .eql, .aA _, .val (.pointer none)=>some false| .neq, .aA _, .val (.pointer none)=>some true|_,_,_=>none
def mP(C:aL)(o:Oper)(op:BinOp)(t:TypeId)(x y:Operand)(a b:U):Option bz:=match lX a,lX b with|some a,some b=>kK o (eD C.P op t x y a b)|_,_=>match C.P.underlying t,Le op a b with|some (.interface _),some r=>ret o (.val (.bool r))|some (.pointer _),_=>(match Hj op a b with|some r=>ret o (.val (.bool r))|none=>none)|_,_=>none
def uw(C:aL)(o:Oper)(t:TypeId)(x:U):Option bz:=match C.P.underlying t with|some (.interface _)=>none|some _=>(match x with| .val v=>if eC (.iface t v)then ret o (.val (.iface t v))else ret o .nn|_=>ret o .nn)|none=>none
def wP(C:aL)(o:Oper)(op:UnOp):U→Option bz| .val a=>kK o (Bp C.P op a)|_=>none
def B8(C:aL)(o:Oper)(src dst:TypeId):U→Option bz| .val a=>kK o (Fs C.P src dst a)|_=>none
def uk(C:aL)(src dst:TypeId):Bool:=match C.P.underlying src,C.P.underlying dst with|some _,some (.slice e)=>(match C.P.underlying e with|some (.int .u8)=>true|_=>false)|_,_=>false
def BR(s:ByteArray):Rows:=s.data.toList.map fun b=>[.val (.int .u8 b.toNat)]
def Fy(o:Oper):U→Option bz| .val (.string s)=>ret o (.sl (BR s))|_=>none
def sS(C:aL)(o:Oper)(src dst:TypeId)(x:U):Option bz:=if uk C src dst then Fy o x else B8 C o src dst x
def sU(C:aL)(S:ah)(o:Oper)(t:TypeId)(l c:U):Option bz:=match C.P.underlying t,o.dst,eB l,eB c with|some (.slice e),some d,some l,some c=>(match yM C e,C.P.info? e with|some z,some i=>if decide (0<z.length)&&decide (i.size=z.length)&&decide (i.bytes≤4096)&&decide (0≤l∧l≤c∧c≤4294967296∧(0<l∨c=0))&&(S.h [d]).isNone then some (put o (.rs [d] 0 l.toNat) [] [([d],some (GE l.toNat z))])else none|_,_=>none)|_,_,_,_=>none
def bounds(lo hi:Option (Option Int))(len:Nat):Option (Nat×Nat):=match(match lo with|none=>some 0|some l=>l),(match hi with|none=>some (len:Int)|some h=>h)with|some l,some h=>if 0≤l∧l≤h∧h≤len then some (l.toNat,h.toNat)else none|_,_=>none
def ot(C:aL)(S:ah)(o:Oper)(t:TypeId)(x:U)(lo hi:Option (Option Int)):Option bz:=match C.P.underlying t with|some (.slice e)=>(match x,hO C e with| .sl rows,some sz=>(bounds lo hi rows.length).bind fun b=>if 0<sz∧rows.all (·.length==sz)then ret o (.sl ((rows.take b.2).drop b.1))else none| .rs id off len,some sz=>(match S.h id with|some (some rows)=>(bounds lo hi len).bind fun b=>if off+len≤rows.length∧0<sz∧rows.all (·.length==sz)then some (put o (.rs id (off+b.1) (b.2-b.1)) [id] [])else none|_=>none)|_,_=>none)|some .string=>(match x with| .val (.string s)=>(bounds lo hi s.size).bind fun b=>ret o (.val (.string (s.extract b.1 b.2)))|_=>none)|_=>none
def Cb(C:aL)(s:TypeId)(i:Nat):Option (Nat×Nat×Bool):=match C.P.underlying s with|some (.struct fields)=>(match fields[i]? with|some fl=>(match hO C fl.type,k3 C fl.type with|some n,some b=>some (fl.offset,n,b)|_,_=>none)|none=>none)|_=>none
def rG(C:aL)(f:FuncId)(o:Oper)(s:TypeId)(i:Nat)(x:U):Option bz:=match Cb C s i with|some (off,n,_)=>(match x with| .aA cells=>if 0<n∧off≤cells.length then(if eL C f o.dst then(if off+n≤cells.length then ret o (.aA ((cells.drop off).take n))else none)else ret o (.aA (cells.drop off)))else none| .mp id row off'=>if 0<n then ret o (.mp id row (off'+off))else none|_=>none)|none=>none
def zA(C:aL)(o:Oper)(s:TypeId)(i:Nat)(x:U):Option bz:=match Cb C s i with|some (off,n,b)=>(match x with| .agg cells=>if off+n≤cells.length then(jd b ((cells.drop off).take n)).map fun v=>put o v [] []else none|_=>none)|none=>none
def mQ(C:aL)(S:ah)(o:Oper)(t:TypeId)(x:U)(i:Option Int):Option bz:=match C.P.underlying t,i with|some (.slice e),some i=>(match hO C e,x with|some n, .sl rows=>if 0≤i then(rows[i.toNat]?).bind fun r=>if r.length=n∧0<n then ret o (.aA r)else none else none|some n, .rs id off len=>if 0≤i∧i<len then match S.h id with|some (some rows)=>(rows[off+i.toNat]?).bind fun r=>if r.length=n then some (put o (.mp id (off+i.toNat) 0) [id] [])else none|_=>none else none|_,_=>none)|some (.array len e),some i=>(match hO C e,x with|some n, .aA cells=>if 0≤i∧i<len∧i.toNat*n≤cells.length then ret o (.aA (cells.drop (i.toNat*n)))else none|some n, .mp id row off=>if 0≤i∧i<len then ret o (.mp id row (off+i.toNat*n))else none|_,_=>none)|_,_=>none
def ux(C:aL)(o:Oper)(t:TypeId)(x:U)(i:Option Int):Option bz:=match C.P.underlying t,i,x with|some .string,some i, .val (.string s)=>if 0≤i then(s[i.toNat]?).bind fun b=>ret o (.val (.int .u8 b.toNat))else none|some (.array len e),some i, .agg cells=>(match hO C e,k3 C e with|some n,some b=>if 0≤i∧i<len∧(i.toNat+1)*n≤cells.length then(jd b ((cells.drop (i.toNat*n)).take n)).map fun v=>put o v [] []else none|_,_=>none)|_,_,_=>none
def zz(o:Oper)(x:U)(i:Nat):Option bz:=match x with| .aY vs=>(match vs[i]? with|some v=>ret o v|none=>none)|_=>none
def rH(C:aL)(o:Oper)(ts:Array TypeId)(xs:List U):Option bz:=match xs with|[x]=>(match(ts[0]?).bind C.P.underlying with|some d=>(match Dp d x with|some n=>ret o (uB n)|none=>none)|none=>none)|_=>none
def qs(C:aL)(f:FuncId)(o:Oper)(e:bz):Option bz:=if eL C f o.dst then match o.dst,e.wr with|some d,[(id,none),(d',some rows)]=>if d'=[d]∧iJ rows=true then some (put o (.sl rows) e.rd [(id,none),([d],none)])else none|some d,[(d',some rows)]=>if d'=[d]∧iJ rows=true then some (put o (.sl rows) e.rd [([d],none)])else none|_,_=>none else some e
def l8(C:aL)(S:ah)(o:Oper)(ts:Array TypeId)(xs:List U):Option bz:=match xs,ts[0]?,(ts[1]?).bind C.P.underlying with|[x,y],some t,some (.slice _)=>y9 C S o t x y|[x,y],some t,some (.int _)=>za C S o t x y|_,_,_=>none
def pathOf(C:aL):Operand→Option (Nat×Nat)| .func k=>C.path k|_=>none
def uy(S:ah)(o:Oper)(p:Nat×Nat):List U→Option bz|[.mp id row off]=>(match S.h id with|some (some rows)=>(match(rows[row]?).bind fun r=>r[off+p.1]? with|some (.rs fX off2 len)=>(match S.h fX with|some (some ff)=>if decide (0<len)&&decide (len≤oJ)&&decide (off2+len≤ff.length)&&ff.all (·.length==p.2)then some (put o (.mp fX (off2+(len-1)) 0) [id,fX] [])else none|_=>none)|_=>none)|_=>none)|[.aA cells]=>(match cells[p.1]? with|some (.sl rows)=>if decide (rows.length≤oJ)&&rows.all (·.length==p.2)then(rows[rows.length-1]?).map fun r=>put o (.aA r) [] []else none|_=>none)|_=>none
def G2:List U→Bool|[.val _]=>true|_=>false
def wO(C:aL)(S:ah)(o:Oper)(ts:Array TypeId)(xs:List U):Option bz:=match xs,(ts[0]?).bind C.P.underlying with|[x,y],some (.slice e)=>(match hO C e,x,rowsOf S.h y with|some 1, .rs id off len,some (ys,i2)=>(match S.h id with|some (some rows)=>if ys.all G2&&rows.all (·.length==1)&&decide (off+len≤rows.length)then some (put o (uB ((min ys.length len:Nat):Int)) (id::i2) [(id,some (rows.take off++ys.take (min ys.length len)++rows.drop (off+min ys.length len)))])else none|_=>none)|_,_,_=>none)|_,_=>none
/-! Maps: keys and values of one cell without an address. -/
def Mz:TypeDesc→Bool| .int _| .string| .bool=>true|_=>false
def uZ(L:Id→Option (Option Rows)):U→Option (Rows×List Id)| .mr id=>(match L id with|some (some rows)=>some (rows,[id])|_=>none)| .im rows=>some (rows,[])| .val (.map none)=>some ([],[])|_=>none
def pH(kind:TypeDesc)(k:Value):Rows→Option (Option Value)|[]=>some none|[.val k', .val v]::rs=>(match Instr.sameNow kind k k' with|some true=>some (some v)|some false=>pH kind k rs|none=>none)|_=>none
def x8(kind:TypeDesc)(k v:Value):Rows→Option Rows|[]=>some [[.val k, .val v]]|[.val k', .val v']::rs=>(match Instr.sameNow kind k k' with|some true=>some ([.val k, .val v]::rs)|some false=>(x8 kind k v rs).map fun y=>[.val k', .val v']::y|none=>none)|_=>none
def Mu(C:aL)(t:TypeId):Option Value:=match(C.P.info? t).bind (·.zero)with|some v=>if eC v then some v else none|none=>none
def Aw(C:aL)(t:TypeId):Option (TypeDesc×Value):=match C.P.underlying t with|some (.map kt et)=>(match C.P.underlying kt,Mu C et with|some kind,some z=>if Mz kind then some (kind,z)else none|_,_=>none)|_=>none
def sV(C:aL)(S:ah)(o:Oper)(t:TypeId)(r:Option Operand):Option bz:=match Aw C t,o.dst with|some _,some d=>if r.isNone&&(S.h [d]).isNone then some (put o (.mr [d]) [] [([d],some [])])else none|_,_=>none
def oq(C:aL)(S:ah)(o:Oper)(t:TypeId)(x k:U)(ok:Bool):Option bz:=match Aw C t,uZ S.h x,k with|some (kind,z),some (rows,ids), .val kv=>(pH kind kv rows).map fun r=>put o (if ok then .aY [.val (r.getD z), .val (.bool r.isSome)]else .val (r.getD z)) ids []|_,_,_=>none
def qp(C:aL)(S:ah)(o:Oper)(t:TypeId)(x k v:U):Option bz:=match Aw C t,x,k,v with|some (kind,_), .mr id, .val kv, .val n5=>(match S.h id with|some (some rows)=>if eC kv&&eC n5&&o.dst.isNone then(x8 kind kv n5 rows).map fun br=>put o .bB [id] [(id,some br)]else none|_=>none)|_,_,_,_=>none
/-! Names that keep their place through a body: they end with a mark. -/
def iL:Nat:=999999
def jU:Id→Bool|[]=>false|[x]=>x==iL|_::y::l=>jU (y::l)
def r5(i q:Id):Id:=if jU i then i else if jU q then q++[0]else q
/-! What lives at a loop's head where names may be shared: the state itself, under names of its own. -/
def ga(l:List (Id×Id))(i:Id):Option Id:=match l with|[]=>none|(o,k)::l=>if o=i then some k else ga l i
def yd(l:List (Id×Id)):U→Option U| .rs i off len=>(ga l i).map fun k=> .rs k off len| .mp i row off=>(ga l i).map fun k=> .mp k row off| .mr i=>(ga l i).map fun k=> .mr k| .cz=>some .cz|a=>if flat a then some a else none
def AT(l:List (Id×Id)):List U→Option (List U)|[]=>some []|a::as=>match yd l a,AT l as with|some b,some bs=>some (b::bs)|_,_=>none
def qR(l:List (Id×Id)):U→Option U| .fn k as cs=>if cY as&&cY cs then some (.fn k as cs)else(match AT l as,AT l cs with|some x,some y=>some (.fn k x y)|_,_=>none)|a=>yd l a
def ld(l:List (Id×Id)):List U→Option (List U)|[]=>some []|a::as=>match qR l a,ld l as with|some b,some bs=>some (b::bs)|_,_=>none
def fo(l:List (Id×Id)):U→U| .agg cs=>(match ld l cs with|some bs=> .agg bs|none=> .bB)| .aY cs=>(match ld l cs with|some bs=> .aY bs|none=> .bB)| .fn f as cs=>(match ld l as,ld l cs with|some bs,some ds=> .fn f bs ds|_,_=> .bB)|a=>match qR l a with|some b=>b|none=> .bB
def AW(l:List (Id×Id)):Rows→Option Rows|[]=>some []|r::rs=>match ld l r,AW l rs with|some b,some bs=>some (b::bs)|_,_=>none
def mG(l:List (Id×Id))(rows:Rows):Option Rows:=if ei rows then some rows else AW l rows
def fE(L:Id→Option (Option Rows)):Nat→Id→Nat→List (Id×Id)→List U→List (Id×Id)|0,_,_,acc,_=>acc|_,_,_,acc,[]=>acc|n+1,p,j,acc,a::as=>fE L n p (j+1) (match a with| .rs i _ _=>if(ga acc i).isSome then acc else acc++[(i,r5 i (j::p))]| .mr i=>if(ga acc i).isSome then acc else acc++[(i,r5 i (j::p))]| .mp i _ _=>if(ga acc i).isSome then acc else(match L i with|some (some [cs])=>fE L n (j::p) 0 (acc++[(i,r5 i (j::p))]) cs|_=>acc++[(i,r5 i (j::p))])| .agg cs=>fE L n (j::p) 0 acc cs| .fn _ as cs=>if cY as&&cY cs then acc else fE L n (j::p) 0 acc (as++cs)|_=>acc) as
def pM(L:Id→Option (Option Rows))(l:List (Id×Id)):List (Id×Id)→Option (List (Id×Rows))|[]=>some []|(o,k)::r=>match L o,pM L l r with|some (some rows),some y=>(mG l rows).map fun br=>(k,br)::y|_,_=>none
def nU(l:List (Id×Id))(t:Nat→U):List Nat→Nat→U|[]=>fun _=> .bB|s::r=>an (nU l t r) s (fo l (t s))
def jB:List (Id×Rows)→Id→Option (Option Rows)|[]=>fun _=>none|(k,rows)::r=>an (jB r) k (some (some rows))
def names(S:ah)(slots:List Nat):List (Id×Id):=slots.foldl (fun acc s=>fE S.h 40 [s] 0 acc [S.t s]) []
def RO(keep:Id→Bool):U→Bool| .rs i _ _=>keep i| .mp i _ _=>keep i| .mr i=>keep i|a=>flat a
def Aq(keep:Id→Bool)(l:List U):Bool:=l.all (RO keep)
def gU(L:Id→Option (Option Rows))(keep:Id→Bool):U→Option (U×List Id)| .rs i off len=>if keep i then some (.rs i off len,[])else pk L 8 (.rs i off len)| .mp i row off=>if keep i then some (.mp i row off,[])else pk L 8 (.mp i row off)| .mr i=>if keep i then some (.mr i,[])else pk L 8 (.mr i)| .cz=>some (.own [] 0,[])| .fn k as cs=>if Aq keep as&&Aq keep cs then some (.fn k as cs,[])else none|a=>if flat a then some (a,[])else none
def lA(L:Id→Option (Option Rows))(keep:Id→Bool)(r:List U):Option (List U×List Id):=if cY r then some (r,[])else dQ (gU L keep) r
def tr(l:List (Id×Id))(i:Id):Bool:=(ga l i).isSome
/-! Graph calls: arguments as they stand, and the objects that they lead to. -/
def nK(C:aL):U→Option (FuncId×List U×List U)| .fn (.func k) first caps=>if C.gW k then some (k,first,caps)else none|_=>none
def ef(L:Id→Option (Option Rows)):Nat→Bool→Id→Nat→List (Id×Id)→List U→List (Id×Id)|0,_,_,_,acc,_=>acc|_,_,_,_,acc,[]=>acc|n+1,b,p,j,acc,a::as=>ef L n b p (j+1) (match a with| .rs i _ _=>if !b||(ga acc i).isSome then acc else acc++[(i,j::p)]| .mr i=>if !b||(ga acc i).isSome then acc else acc++[(i,j::p)]| .mp i _ _=>if(ga acc i).isSome then acc else(match L i with|some (some [cs])=>ef L n false (j::p) 0 (acc++[(i,j::p)]) cs|_=>acc++[(i,j::p)])| .agg cs=>ef L n b (j::p) 0 acc cs| .fn _ as cs=>ef L n true (j::p) 0 acc (as++cs)|_=>acc) as
def nE(L:Id→Option (Option Rows))(keep:Id→Bool)(rows:Rows):Option (Rows×List Id):=if ei rows then some (rows,[])else dr (lA L keep) rows
def iO(L:Id→Option (Option Rows))(l:List (Id×Id)):List (Id×Id)→Option (List U×List Id)|[]=>some ([],[])|(o,k)::r=>match L o with|some (some rows)=>(nE L (tr l) rows).bind fun x=>(mG l x.1).bind fun br=>(iO L l r).map fun y=>(.bt k br::y.1,x.2++y.2)|_=>none
def iX(l':List (Id×Id)):List (Id×Id)→List U→Option (List (Id×Option Rows))|[],[]=>some []|(o,k)::r, .bt k' rows::outs=>if k'=k then(mG l' rows).bind fun br=>(iX l' r outs).map fun y=>(o,some br)::y else none|(o,_)::r, .bB::outs=>(iX l' r outs).map fun y=>(o,none)::y|_,_=>none
structure yS where
 r:U
 l:List (Id×Id)
 back:List (Id×Option Rows)
 gone:List Id
def Cl(call:FuncId→List U→Option (U×List U))(L:Id→Option (Option Rows))(k:FuncId)(args:List U)(l:List (Id×Id)):Option yS:=match iO L l l with|some (obs,gone)=>if dV (l.map (·.1))&&dV (l.map (·.2))&&(l.all fun x=>jU x.2)&&dV gone&&sN gone (l.map (·.1))then match call k (.aY obs::args.map (fo l))with|some (r,outs)=>(iX (l.map fun x=>(x.2,x.1)) l outs).map fun back=>⟨r,l,back,gone⟩|none=>none else none|none=>none
def rM(call:FuncId→List U→Option (U×List U))(L:Id→Option (Option Rows))(k:FuncId)(args:List U):Option yS:=Cl call L k args (ef L 60 true [iL] 0 [] args)
def sg(L:Id→Option (Option Rows))(b:Id×Option Rows):Bool:=match L b.1,b.2 with|some (some [[.mp i r f]]),some [[.mp i' r' f']]=>i==i'&&r==r'&&f==f'|_,_=>false
def kf(L:Id→Option (Option Rows))(back:List (Id×Option Rows)):List (Id×Option Rows):=back.filter fun b=> !sg L b
def Am:U→Bool| .AE _=>true|_=>false
def qk(C:aL)(f:FuncId)(call:FuncId→List U→Option (U×List U))(S:ah)(o:Oper)(k:FuncId)(args:List U):Option bz:=
 (rM call S.h k args).bind fun x=>
  if Am x.r then none else
  let y:=imp (iY o) (fo (x.l.map fun x=>(x.2,x.1)) (if eL C f o.dst then(if flat x.r then dF x.r else .bB)else x.r))
  if fresh S.h y.2 then some (put o y.1 (x.l.map (·.1)) (y.2++(kf S.h x.back++x.gone.map fun i=>(i,none))))else none
def bw(C:aL)(f:FuncId)(call:FuncId→List U→Option (U×List U))(S:ah)(g:Bool)(o:Oper):Option bz:=match o.op with| .move x=>ret o (un g (S.get C x))| .assign x=>ret o (un g (S.get C x))| .pick c a b=>uz o (un g (S.get C c)) (un (g&&mM (un g (S.get C c))) (S.get C a)) (un (g&& !mM (un g (S.get C c))) (S.get C b))| .alloc t=>sQ C f S o t| .box t x=>qo C f S o t (un g (S.get C x))| .build t parts=>uu C f o t (parts.toList.map fun p=>(p.1,un g (S.get C p.2)))| .buildSlice t len parts=>oo C f S o t len (parts.toList.map fun p=>(p.1,un g (S.get C p.2)))| .load t a=>lD C S o t (un g (S.get C a))| .store t a x=>ou C f S g o t a (un g (S.get C a)) (un g (S.get C x))| .nilCheck x=>zB o (un g (S.get C x))| .binOp op t x y _=>mP C o op t x y (un g (S.get C x)) (un g (S.get C y))| .unOp op _ x=>wP C o op (un g (S.get C x))| .convert src dst x=>sS C o src dst (un g (S.get C x))| .makeInterface t x=>uw C o t (un g (S.get C x))| .makeFunc fn first caps=>ret o (.fn fn (first.toList.map fun x=>un g (S.get C x)) (caps.toList.map fun x=>un g (S.get C x)))| .makeSlice t l c=>sU C S o t (un g (S.get C l)) (un g (S.get C c))| .slice t x lo hi mx=>if mx.isSome then none else ot C S o t (un g (S.get C x)) (lo.map fun y=>eB (un g (S.get C y))) (hi.map fun y=>eB (un g (S.get C y)))| .fieldAddr s x i=>rG C f o s i (un g (S.get C x))| .field s x i=>zA C o s i (un g (S.get C x))| .indexAddr t x i=>mQ C S o t (un g (S.get C x)) (eB (un g (S.get C i)))| .index t x i=>ux C o t (un g (S.get C x)) (eB (un g (S.get C i)))| .extract x i=>zz o (un g (S.get C x)) i| .makeMap t r=>sV C S o t r| .lookup t x k ok=>oq C S o t (un g (S.get C x)) (un g (S.get C k)) ok| .mapUpdate t x k v=>qp C S o t (un g (S.get C x)) (un g (S.get C k)) (un g (S.get C v))| .insert t x k v=>qp C S o t (un g (S.get C x)) (un g (S.get C k)) (un g (S.get C v))| .call c=>(match c.callee with| .builtin .len=>rH C o c.argTypes (c.args.toList.map fun x=>un g (S.get C x))| .builtin .append=>(l8 C S o c.argTypes (c.args.toList.map fun x=>un g (S.get C x))).bind (qs C f o)| .builtin .copy=>wO C S o c.argTypes (c.args.toList.map fun x=>un g (S.get C x))| .builtin .max=>(match jl (c.args.toList.map fun x=>un g (S.get C x))with|some vs=>kK o (GD C.P c.argTypes o.type vs)|none=>none)| .builtin .min=>(match jl (c.args.toList.map fun x=>un g (S.get C x))with|some vs=>kK o (GF C.P c.argTypes o.type vs)|none=>none)| .value cN=>(match nK C (un g (S.get C cN))with|some x=>qk C f call S o x.1 (x.2.1++(c.args.toList.map fun x=>un g (S.get C x))++x.2.2)|none=>match pathOf C cN with|some p=>uy S o p (c.args.toList.map fun x=>un g (S.get C x))|none=>if yy C cN then(match cN with| .func k=>rC C f call S o k (c.args.toList.map fun x=>un g (S.get C x))|_=>none)else qj C f call S o (un g (S.get C cN)) (c.args.toList.map fun x=>un g (S.get C x)))|_=>none)|_=>none
/-! ## Regions -/
def rO(S:ah)(ops:Array Oper)(o:Oper):Option Bool:=match o.guard with|none=>some true|some (j,want)=>match(ops[j]?).bind (·.dst)with|some d=>(match S.t d with| .val (.bool b)=>some (b==want)| .dw g (.val (.bool b))=>some (g&&(b==want))| .dw false _=>some false|_=>none)|none=>none
def An(o:Oper):bz:=put o (.dw false .bB) [] []
def uv(C:aL)(f:FuncId)(call:FuncId→List U→Option (U×List U))(S:ah)(ops:Array Oper)(o:Oper):Option bz:=match rO S ops o with|none=>none|some g=>match o.guard with|none=>bw C f call S true o|some _=>match bw C f call S g o with|some e=>if e.wr.isEmpty then some {e with dK:=e.dK.map fun x=>(x.1, .dw g x.2)}else if g then some e else some (An o)|none=>if g then none else some (An o)
abbrev iU:=Nat×List Id×List Id
def hkey(i:Nat)(e:bz)(l:List iU):List iU:=if e.rd.isEmpty&&e.wr.isEmpty then l else(i,e.rd,e.wr.map (·.1))::l
def l9(C:aL)(f:FuncId)(call:FuncId→List U→Option (U×List U))(ops:Array Oper):Nat→List Oper→ah→Option (ah×List iU)|_,[],S=>some (S,[])|i,o::l,S=>(uv C f call S ops o).bind fun e=>if e.dK.all fun x=>decide (x.1<S.n)then(l9 C f call ops (i+1) l (S.app e)).map fun x=>(x.1,hkey i e x.2)else none
def qU(C:aL)(f:FuncId)(o:Oper):List Nat:=o.dst.toList++(match o.op with| .store _ a _=>(wU C f a).toList|_=>[])
def slotsOf(ops:Array Oper)(o:Oper):List Nat:=(o.op.operands.toList.filterMap fun| .tmp t=>some t|_=>none)++(match o.guard with|some (j,_)=>(match(ops[j]?).bind (·.dst)with|some d=>[d]|none=>[])|none=>[])
def BN(C:aL)(f:FuncId)(ops:Array Oper)(oi oj:Oper):Bool:=((qU C f oi).all fun x=> !(slotsOf ops oj).contains x&& !(qU C f oj).contains x)&&((qU C f oj).all fun y=> !(slotsOf ops oi).contains y)
def Du(a s:List Nat):List Nat:=a.foldl (fun s x=>if s.contains x then s else x::s) s
def E8(ops:Array Oper):List (List Nat):=ops.toList.foldl (init:=[]) fun acc o=>acc++[o.after.toList.foldl (init:=[]) fun s e=>if Region.binds .any e then(if s.contains e.on then s else e.on::Du (acc.getD e.on []) s)else s]
def A6(C:aL)(f:FuncId)(id:Nat)(ops:Array Oper):Bool:=
 let b:=E8 ops
 let l:=ops.toList.zipIdx
 Region.noSelect ops&&(l.all fun x=>l.all fun y=>if x.2<y.2 then(b.getD y.2 []).contains x.2||BN C f ops x.1 y.1 else true)&&
 (l.all fun x=>x.1.after.all fun e=> !Region.binds .any e||decide (e.on<x.2))&&(C.iy f id).all fun p=>(b.getD p.2 []).contains p.1
def sO(a b:iU):Bool:=(a.2.2.all fun x=> !b.2.1.contains x&& !b.2.2.contains x)&&(b.2.2.all fun x=> !a.2.1.contains x)
def oD(iy:List (Nat×Nat)):List iU→Bool|[]=>true|x::l=>(l.all fun y=>iy.contains (x.1,y.1)||sO x y)&&oD iy l
def pG(C:aL)(f:FuncId)(call:FuncId→List U→Option (U×List U))(id:Nat)(ops:Array Oper)(draw:Bool)(S:ah):Option ah:=(l9 C f call ops 0 ops.toList S).bind fun x=>if draw then(if oD (C.iy f id) x.2 then some x.1 else none)else some x.1
/-! ## Code -/
def mR:Code→Option Nat| .region id _ _=>some id| .seq a b=>(match mR a with|some i=>some i|none=>mR b)| .cond _ a b=>(match mR a with|some i=>some i|none=>mR b)| .block _ c=>mR c| .loop c=>mR c| .scope c=>mR c|_=>none
def jZ(L:Id→Option (Option Rows))(t:Nat→U):List Nat→Option (List U×List Id)|[]=>some ([],[])|s::l=>(pk L 9 (t s)).bind fun x=>(jZ L t l).map fun y=>(x.1::y.1,x.2++y.2)
def jF(S:ah)(slots:List Nat):Option (List U):=match jZ S.h S.t slots with|some (ct,ids)=>if dV ids then some ct else none|none=>none
def aJ(n:Nat):List Nat→List U→ah
 |s::l,v::vs=>
  let S:=aJ n l vs
  {n,t:=an S.t s (imp [s] v).1,h:=bu S.h (imp [s] v).2}
 |_,_=>{n,t:=fun _=> .bB,h:=fun _=>none}
def ql(keep:Id→Bool)(S:ah)(o:Id):Option ah:=match S.h o with|some (some rows)=>if ei rows then some S else(match dr (lA S.h keep) rows with|some (br,ids)=>if dV ids&& !ids.contains o then some ⟨S.n,S.t,bu S.h ((o,some br)::ids.map fun i=>(i,none))⟩else none|none=>none)|_=>none
def jP(keep:Id→Bool):List Id→ah→Option ah|[],S=>some S|o::l,S=>(ql keep S o).bind (jP keep l)
def qI(S:ah)(s:Nat):ah:=match S.t s,S.h [s,s]with| .cz,none=>⟨S.n,an S.t s (.rs [s,s] 0 0),an S.h [s,s] (some (some []))⟩|_,_=>S
def ko:List Nat→ah→ah|[],S=>S|s::l,S=>ko l (qI S s)
def tA(l:List (Id×Id))(slots:List Nat)(S:ah):Option ah:=if dV (l.map (·.1))&&dV (l.map (·.2))&&l.all (fun x=> !jU x.2||x.1==x.2)then(pM S.h l l).map fun hl=>⟨S.n,nU l S.t slots,jB hl⟩else none
def Dx(S:ah)(slots:List Nat)(l:List (Id×Id)):Option ah:=(jP (tr l) (l.map (·.1)) S).bind (tA l slots)
def norm(S:ah)(slots:List Nat):Option ah:=Dx (ko slots S) slots (names (ko slots S) slots)
def dB(o:Option (Bool×List Nat))(S:ah):Option ah:=match o with|none=>some S|some (true,l)=>norm S l|some (false,l)=>(jF S l).map (aJ S.n l)
def ir(C:aL)(f:FuncId)(b:Code):Option (Bool×List Nat):=match mR b with|some i=>C.Ft f i|none=>none
def ow(S:ah)(s:Nat):Option ah:=match pk S.h 9 (S.t s)with|some (v,ids)=>if dV ids then some ⟨S.n,an S.t s (dF v),bu S.h (ids.map fun i=>(i,none))⟩else none|none=>none
def mb(S:ah)(s:Nat):Option ah:=match S.t s with| .mp id 0 0=>(match S.h id with|some (some [cells])=>if eu cells then some ⟨S.n,an S.t s (.aA cells),an S.h id (some none)⟩else none|_=>none)| .rs _ _ _=>ow S s| .cz=>ow S s| .mr _=>ow S s| .sl _=>some S|_=>none
def kV:List Nat→ah→Option ah|[],S=>some S|s::l,S=>(mb S s).bind (kV l)
def qO(p:Nat)(S:ah)(s:Nat):Option ah:=match S.t s with| .mp id _ _=>(match S.h id with|some (some [r])=>if(bT [p,s] 0 r).2.isEmpty then some S else if s<S.n∧fresh S.h (bT [p,s] 0 r).2=true then some ⟨S.n,S.t,bu S.h ((id,some [(bT [p,s] 0 r).1])::(bT [p,s] 0 r).2)⟩else none|_=>none)|_=>none
def mD(p:Nat):List Nat→ah→Option ah|[],S=>some S|s::l,S=>(qO p S s).bind (mD p l)
def pq(C:aL)(f:FuncId)(id:Nat)(S:ah):Option ah:=(mD (1000+id) (C.jh f id) S).bind fun bJ=>(kV (C.ki f id) bJ).bind (dB (C.ju f id))
abbrev nw:=(α:Type)→(α→Option (Exit×ah))→(ah→Option α)→α→Option (Exit×ah)
def iF{α:Type}(g:α→Option (Exit×ah))(rn:ah→Option α):Nat→α→Option (Exit×ah)|0,_=>none|n+1,ct=>(g ct).bind fun x=>match x.1 with| .normal=>(rn x.2).bind (iF g rn n)|_=>some x
/-! A range over a function: each round begins with the slots of the loop's entry, and with what has been yielded. -/
def tG(t:Nat→U):List (Nat×U)→Nat→U|[]=>t|(p,v)::l=>tG (an t p v) l
def D5(S:ah)(ps:List Nat)(y:List U):Option ah:=if ps.length=y.length∧(ps.all fun p=>decide (p<S.n))=true then some ⟨S.n,tG S.t (ps.zip y),S.h⟩else none
def qq(g:ah→Option (Exit×ah))(rn:ah→Option ah)(ps:List Nat):List (List U)→ah→Option (Exit×ah)|[],S=>some (.normal,S)|y::ys,S=>(D5 S ps y).bind fun bJ=>(g bJ).bind fun x=>(rn x.2).bind fun c9=>match x.1 with| .normal=>qq g rn ps ys c9| .ret=>some (.ret,c9)| .exit i=>some (.exit i,c9)|_=>none
def TP(assign body:Code):Option Nat:=match mR assign with|some i=>some i|none=>mR body
def yc(C:aL)(f:FuncId)(assign body:Code):List Nat:=match TP assign body with|some i=>C.live f i|none=>[]
def yb(C:aL)(f:FuncId)(assign body:Code):Option (Bool×List Nat):=some (match TP assign body with|some i=>C.shr f i|none=>false,yc C f assign body)
def AQ(C:aL)(x:U):Option (List (List U)):=match x with
 | .fn (.func k) [] caps=>if eu caps then(C.iter k).bind (· caps)else none
 |_=>none
def cy(C:aL)(f:FuncId)(call:FuncId→List U→Option (U×List U))(bV:nw):Code→ah→Option (Exit×ah)
 | .skip,S=>some (.normal,S)
 | .label _,S=>some (.normal,S)
 | .exit id,S=>some (.exit id,S)
 | .ret,S=>some (.ret,S)
 | .region id ops draw,S=>((kV (C.lI f id) S).bind fun fU=>(pG C f call id ops draw fU).bind (pq C f id)).map fun S'=>(.normal,S')
 | .seq a b,S=>(cy C f call bV a S).bind fun x=>match x.1 with
  | .normal=>(dB (ir C f b) x.2).bind (cy C f call bV b)
  |_=>some x
 | .cond c a b,S=>match un true (S.get C c)with
  | .val (.bool t)=>if t then cy C f call bV a S else cy C f call bV b S
  |_=>none
 | .block id c,S=>(cy C f call bV c S).bind fun x=>match(match x.1 with| .exit i=>if i=id then .normal else .exit i|e=>e:Exit)with
  | .normal=>(dB (C.pn f id) x.2).map fun S'=>(.normal,S')
  |e=>some (e,x.2)
 | .loop c,S=>
  let slots:=match mR c with|some i=>C.live f i|none=>[]
  if(match mR c with|some i=>C.shr f i|none=>false)then
   (norm S slots).bind fun bJ=>bV ah (fun S'=>cy C f call bV c S') (fun S'=>norm S' slots) bJ
  else(jF S slots).bind fun ct=>bV (List U) (fun ct=>cy C f call bV c (aJ S.n slots ct)) (fun S'=>jF S' slots) ct
 | .rangeFunc g ps assign body,S=>(AQ C (un true (S.get C g))).bind fun ys=>(dB (yb C f assign body) S).bind
   (qq (fun bJ=>(cy C f call bV assign bJ).bind fun x=>match x.1 with| .normal=>cy C f call bV body x.2|_=>none) (dB (yb C f assign body)) ps.toList ys)
 |_,_=>none
/-! ## Functions -/
def vn(C:aL)(S:ah):ResultVar→Option (U×List Id)| .tmp t=>pk S.h 9 (un true (S.t t))| .cell a ty=>match k3 C ty,hO C ty,un true (S.t a)with|some b,some n, .aA cells=>if n≤cells.length then((jd b (cells.take n)).bind (pk S.h 9))else none|some b,some n, .mp id row off=>(match S.h id with|some (some rows)=>(match rows[row]? with|some r=>if off+n≤r.length then((jd b ((r.drop off).take n)).bind (pk S.h 9)).map fun x=>(x.1,id::x.2)else none|none=>none)|_=>none)|_,_,_=>none
def kJ(C:aL)(S:ah):List ResultVar→Option (List U×List Id)|[]=>some ([],[])|r::l=>(vn C S r).bind fun x=>(kJ C S l).map fun y=>(x.1::y.1,x.2++y.2)
def finish(C:aL)(fn:Func)(cA:List Nat)(_args:List U)(S:ah):Option (U×List U):=match kJ C S fn.results.toList,jZ S.h S.t cA with|some (rs,i1),some (outs,i2)=>if dV (i1++i2)then some (match rs with|[r]=>r|_=> .aY rs,outs)else none|_,_=>none
/-! At the end of a call whose objects keep their places. -/
def mO(L:Id→Option (Option Rows))(keep:Id→Bool):U→Option (U×List Id)| .agg cs=>(dQ (gU L keep) cs).map fun x=>(.agg x.1,x.2)|a=>gU L keep a
def vo(C:aL)(S:ah)(p:U→Option (U×List Id)):ResultVar→Option (U×List Id)| .tmp t=>p (un true (S.t t))| .cell a ty=>match k3 C ty,hO C ty,un true (S.t a)with|some b,some n, .aA cells=>if n≤cells.length then((jd b (cells.take n)).bind p)else none|some b,some n, .mp id row off=>(match S.h id with|some (some rows)=>(match rows[row]? with|some r=>if off+n≤r.length then((jd b ((r.drop off).take n)).bind p).map fun x=>(x.1,id::x.2)else none|none=>none)|_=>none)|_,_,_=>none
def lV(C:aL)(S:ah)(p:U→Option (U×List Id)):List ResultVar→Option (List U×List Id)|[]=>some ([],[])|r::l=>(vo C S p r).bind fun x=>(lV C S p l).map fun y=>(x.1::y.1,x.2++y.2)
def mo:Option (Option Rows)→Bool|some (some _)=>true|_=>false
def k8(L:Id→Option (Option Rows))(keep:Id→Bool):List Id→Option (List U×List Id)|[]=>some ([],[])|k::r=>match L k with|some (some rows)=>(nE L keep rows).bind fun x=>(k8 L keep r).map fun y=>(.bt k x.1::y.1,x.2++y.2)|_=>(k8 L keep r).map fun y=>(.bB::y.1,y.2)
def oH(ids:List Id)(S:ah):ah:=⟨S.n,S.t,bu S.h (ids.map fun i=>(i,none))⟩
def sW(C:aL)(fn:Func)(ks:List Id)(S:ah):Option (U×List U):=
 let al:=ks.filter fun k=>mo (S.h k)
 let keep:Id→Bool:=fun i=>al.contains i
 match lV C S (mO S.h keep) fn.results.toList,k8 S.h keep ks with
 |some (rs,i1),some (outs,i2)=>if dV (al++(i1++i2))then some (match rs with|[r]=>r|_=> .aY rs,outs)else none
 |_,_=>none
def jw(C:aL)(f:FuncId)(call:FuncId→List U→Option (U×List U))(bV:nw):Code→ah→Option (Exit×ah)| .seq (.region id ops draw) b,S=>if C.Fv f id then match ops.toList,draw with|[o0,o1],false=>(match o1.op,o1.guard,o1.dst with| .defer ⟨.value (.tmp d),args,_⟩,none,none=>if args.isEmpty then(l9 C f call ops 0 [o0] S).bind fun x=>match x.1.t d with| .fn (.func k) _ _=>if C.nS k then jw C f call bV b x.1 else none|_=>none else none|_,_,_=>none)|_,_=>none else(cy C f call bV (.region id ops draw) S).bind fun x=>(match x.1 with| .normal=>(dB (ir C f b) x.2).bind (jw C f call bV b)|_=>some x)| .seq a b,S=>(cy C f call bV a S).bind fun x=>(match x.1 with| .normal=>(dB (ir C f b) x.2).bind (jw C f call bV b)|_=>some x)|c,S=>cy C f call bV c S
def pz(C:aL)(f:FuncId):Code→Bool| .seq (.region id _ _) b=>C.Fv f id||pz C f b| .seq _ b=>pz C f b|_=>false
def va:List U→Option (List (Id×Rows))|[]=>some []| .bt i rows::l=>(va l).map ((i,rows)::·)|_::_=>none
def yw(n:Nat)(ps:List U)(hl:List (Id×Rows)):ah:=⟨n,fun t=>ps.getD t .bB,jB hl⟩
def B9(C:aL)(call:FuncId→List U→Option (U×List U))(bV:nw)(f:FuncId)(fn:Func)(c:Code):List U→Option (U×List U)| .aY obs::ps=>(match va obs with|some hl=>if ps.length≤fn.ntmps∧fn.ntmps≤iL then((mD iL (C.jh f iL) (yw fn.ntmps ps hl)).bind (if pz C f c then jw C f call bV c else cy C f call bV c)).bind fun x=>match x.1 with| .normal=>sW C fn (hl.map (·.1)) (oH (C.rE f) x.2)| .ret=>sW C fn (hl.map (·.1)) (oH (C.rE f) x.2)|_=>none else none|none=>none)|_=>none
def rF(C:aL)(call:FuncId→List U→Option (U×List U))(bV:nw)(f:FuncId)(args:List U):Option (U×List U):=match C.ext f with|some g=>g args|none=>match C.P.funcs[f]? with|some fn=>(match fn.body with|some c=>if C.gW f then B9 C call bV f fn c args else if args.length≤fn.ntmps then(cy C f call bV c (aJ fn.ntmps (List.range args.length) args)).bind fun x=>match x.1 with| .normal=>finish C fn (C.cA f) args x.2| .ret=>finish C fn (C.cA f) args x.2|_=>none else none|none=>none)|none=>none
end Go.Ab
