import Derived.Deep.Quiet
open List renaming replicate→GE
set_option linter.all false
namespace Go.Ab
open Go
theorem AC.{u}{c:Prop}{h:Decidable c}(hc:c){α:Sort u}{t e:α}:ite c t e=t:=if_pos hc
theorem Do.{u}{c:Prop}{h:Decidable c}(hc:¬c){α:Sort u}{t e:α}:ite c t e=e:=if_neg hc
abbrev Id:=List Nat
inductive U where|val(v:Value)|sl(rows:List (List U))|ay(cells:List U)|bU|rs(id:Id)(off len:Nat)|mp(id:Id)(row off:Nat)|fn(f:Fn)(first caps:List U)|agg(cells:List U)|aG(vs:List U)|own(rows:List (List U))(len:Nat)|b7(cells:List U)|cv(g:Bool)(x:U)|nn|mr(id:Id)|dy(rows:List (List U))|im(rows:List (List U))|bf(id:List Nat)(rows:List (List U))|vM(v:Value)|aK deriving Inhabited
abbrev Rows:=List (List U)
structure ah where
 n:Nat
 t:Nat→U
 h:Id→Option (Option Rows)
structure aJ where
 cG:List (Nat×U)
 rd:List Id
 wr:List (Id×Option Rows)
def ai{α β:Type}[DecidableEq α](f:α→β)(k:α)(v:β):α→β:=fun j=>if j=k then v else f j
def cm(t:Nat→U):List (Nat×U)→Nat→U|[]=>t|(i,v)::l=>ai (cm t l) i v
def aI(h:Id→Option (Option Rows)):List (Id×Option Rows)→Id→Option (Option Rows)|[]=>h|(i,r)::l=>ai (aI h l) i (some r)
def ah.app(s:ah)(e:aJ):ah:={n:=s.n,t:=cm s.t e.cG,h:=aI s.h e.wr}
def dc:Value→Bool| .bool _| .int _ _| .float _ _| .string _| .pointer _| .nilFunc| .nilIface| .map none| .iface _ (.int _ _)| .iface _ (.string _)| .iface _ (.bool _)=>true|_=>false
def bY{α:Type}(P:Program):Sem α→Option α| .pure a=>some a| .program k=>bY P (k P)|_=>none
structure av where
 P:Program
 bM:Nat→Option (List U)
 ext:FuncId→Option (List U→Option (U×List U))
 bR:FuncId→List Nat
 vC:FuncId→List Nat:=fun _=>[]
 shr:FuncId→Nat→Bool:=fun _ _=>false
 dB:FuncId→List Nat
 live:FuncId→Nat→List Nat
 jb:FuncId→Nat→List (Nat×Nat)
 gZ:FuncId→Nat→Option (Bool×List Nat):=fun _ _=>none
 lT:FuncId→Nat→Option (Bool×List Nat):=fun _ _=>none
 AR:FuncId→Nat→Option (Bool×List Nat):=fun _ _=>none
 path:FuncId→Option (Nat×Nat):=fun _=>none
 rF:FuncId→Nat→List Nat:=fun _ _=>[]
 iter:FuncId→Option (List U→Option (List (List U))):=fun _=>none
 look:FuncId→Bool:=fun _=>false
 iQ:FuncId→Nat→List Nat:=fun _ _=>[]
 fD:FuncId→Bool:=fun _=>false
 gP:FuncId→Nat→List Nat:=fun _ _=>[]
 jy:FuncId→Nat→List Nat:=fun _ _=>[]
 nT:FuncId→List Id:=fun _=>[]
 AT:FuncId→Nat→Bool:=fun _ _=>false
 kL:FuncId→Bool:=fun _=>false
 ago:FuncId→Nat→Bool:=fun _ _=>false
def ah.get(C:av)(s:ah):Operand→U| .tmp t=>s.t t| .const v=>if dc v then .val v else(match v with| .slice none 0 0=> .bU|_=> .aK)| .global g=>(match C.bM g with|some cs=> .ay cs|none=> .aK)| .func f=> .fn (.func f) [] []
def un(g:Bool):U→U| .cv g' x=>if !g||g' then x else .aK|x=>x
def gp:List U→Option (List Value)|[]=>some []| .val v::l=>(gp l).map (v::·)|_::_=>none
def jr:U→Option Value| .val v=>some v| .agg cs=>(gp cs).map fun vs=> .agg ⟨vs⟩|_=>none
def F0(v:Value):Option U:=if dc v then some (.val v)else match v with| .slice none 0 0=>some .bU|_=>none
def vJ:List Value→Option (List U)|[]=>some []|v::l=>match F0 v with|some a=>(vJ l).map (a::·)|none=>none
def tT(C:av)(t:TypeId):Option (List U):=match(C.P.info? t).bind (·.zero)with|some v=>vJ v.cells.toList|none=>none
def FZ(v:Value):Option U:=if dc v then some (.val v)else match v with| .slice none 0 0=>some (.own [] 0)|_=>none
def tv:List Value→Option (List U)|[]=>some []|v::l=>match FZ v with|some a=>(tv l).map (a::·)|none=>none
def tU(C:av)(t:TypeId):Option (List U):=match(C.P.info? t).bind (·.zero)with|some v=>tv v.cells.toList|none=>none
def fL(C:av)(t:TypeId):Option Nat:=(C.P.info? t).map (·.size)
def jl(C:av)(t:TypeId):Option Bool:=(C.P.underlying t).map fun| .struct _=>true| .array _ _=>true|_=>false
def nz:U→U| .bU=> .sl []|x=>x
def iS(l:List U):List U:=l.map nz
def U.cell:U→Bool| .val _| .sl _| .ay _| .bU| .rs _ _ _| .mp _ _ _| .fn _ _ _| .nn| .mr _| .im _=>true|_=>false
def k5(BB:Bool):U→Option (List U)| .agg cs=>if BB&&cs.all U.cell then some cs else none|x=>if !BB&&x.cell then some [x]else none
def gN(BB:Bool)(cs:List U):Option U:=if BB then some (.agg cs)else match cs with|[c]=>some c|_=>none
def bl(p:Id):Nat→List U→List U×List (Id×Option Rows)|_,[]=>([],[])|j,c::cs=>match c with| .own rows len=>(.rs (j::p) 0 len::(bl p (j+1) cs).1,(j::p,some rows)::(bl p (j+1) cs).2)| .b7 cells=>(.mp (j::p) 0 0::(bl p (j+1) cs).1,(j::p,some [cells])::(bl p (j+1) cs).2)| .dy rows=>(.mr (j::p)::(bl p (j+1) cs).1,(j::p,some rows)::(bl p (j+1) cs).2)| .agg _=>(.aK::(bl p (j+1) cs).1,(bl p (j+1) cs).2)| .aG _=>(.aK::(bl p (j+1) cs).1,(bl p (j+1) cs).2)|c=>(c::(bl p (j+1) cs).1,(bl p (j+1) cs).2)
def dP(p:Id):Nat→List U→List U×List (Id×Option Rows)|_,[]=>([],[])|j,c::cs=>match c with| .own rows len=>(.rs (j::p) 0 len::(dP p (j+1) cs).1,(j::p,some rows)::(dP p (j+1) cs).2)| .b7 cells=>(.mp (j::p) 0 0::(dP p (j+1) cs).1,(j::p,some [cells])::(dP p (j+1) cs).2)| .dy rows=>(.mr (j::p)::(dP p (j+1) cs).1,(j::p,some rows)::(dP p (j+1) cs).2)| .agg l=>(.agg (bl (j::p) 0 l).1::(dP p (j+1) cs).1,(bl (j::p) 0 l).2++(dP p (j+1) cs).2)| .aG _=>(.aK::(dP p (j+1) cs).1,(dP p (j+1) cs).2)|c=>(c::(dP p (j+1) cs).1,(dP p (j+1) cs).2)
def imp(p:Id):U→U×List (Id×Option Rows)| .own rows len=>(.rs p 0 len,[(p,some rows)])| .b7 cells=>(.mp p 0 0,(p,some [(bl p 0 cells).1])::(bl p 0 cells).2)| .dy rows=>(.mr p,[(p,some rows)])| .agg l=>(.agg (bl p 0 l).1,(bl p 0 l).2)| .aG l=>(.aG (dP p 0 l).1,(dP p 0 l).2)|x=>(x,[])
mutual def flat:U→Bool| .rs _ _ _| .mp _ _ _| .cv _ _| .bU| .mr _=>false| .own rows _=>dA rows| .b7 cells=>cg cells| .agg cells=>cg cells| .aG vs=>cg vs| .fn _ first caps=>cg first&&cg caps|_=>true def cg:List U→Bool|[]=>true|c::cs=>flat c&&cg cs def dA:List (List U)→Bool|[]=>true|r::rs=>cg r&&dA rs end
mutual def en:U→Bool| .rs _ _ _| .mp _ _ _| .cv _ _| .bU| .own _ _| .b7 _| .mr _| .dy _| .aK=>false| .agg cells=>c9 cells| .aG vs=>c9 vs| .fn _ first caps=>c9 first&&c9 caps|_=>true def c9:List U→Bool|[]=>true|c::cs=>en c&&c9 cs end
def jk(rows:Rows):Bool:=rows.all c9
def dm(p:U→Option (U×List Id)):List U→Option (List U×List Id)|[]=>some ([],[])|c::cs=>(p c).bind fun x=>(dm p cs).map fun y=>(x.1::y.1,x.2++y.2)
def dU(p:List U→Option (List U×List Id)):Rows→Option (Rows×List Id)|[]=>some ([],[])|r::rs=>(p r).bind fun x=>(dU p rs).map fun y=>(x.1::y.1,x.2++y.2)
def gm(p:U→Option (U×List Id))(cs:List U):Option (List U×List Id):=if cg cs then some (cs,[])else dm p cs
def mA(p:U→Option (U×List Id))(rs:Rows):Option (Rows×List Id):=if dA rs then some (rs,[])else dU (gm p) rs
def pk(L:Id→Option (Option Rows)):Nat→U→Option (U×List Id)|0,_=>none|n+1,a=>match a with| .rs id off len=>(match L id with|some (some rs)=>if off=0∧len≤rs.length then(mA (pk L n) rs).map fun x=>(.own x.1 len,id::x.2)else none|_=>none)| .mp id row off=>(match L id with|some (some [cs])=>if row=0∧off=0 then(gm (pk L n) cs).map fun x=>(.b7 x.1,id::x.2)else none|_=>none)| .mr id=>(match L id with|some (some rs)=>some (.dy rs,[id])|_=>none)| .bU=>some (.own [] 0,[])| .agg cs=>(gm (pk L n) cs).map fun x=>(.agg x.1,x.2)| .aG cs=>(gm (pk L n) cs).map fun x=>(.aG x.1,x.2)| .fn f a b=>if c9 a&&c9 b then some (.fn f a b,[])else none| .cv _ _=>some (.aK,[])| .own rs len=>if dA rs then some (.own rs len,[])else none| .b7 cs=>if cg cs then some (.b7 cs,[])else none|a=>some (a,[])
def fq(p:U→Option (U×List Id))(cs:List U):Option (List U×List Id):=if c9 cs then some (cs,[])else dm p cs
def lR(p:U→Option (U×List Id))(rs:Rows):Option (Rows×List Id):=if jk rs then some (rs,[])else dU (fq p) rs
def bK(L:Id→Option (Option Rows)):Nat→U→Option (U×List Id)|0,_=>none|n+1,a=>match a with| .rs id off len=>(match L id with|some (some rs)=>if off+len≤rs.length then(lR (bK L n) ((rs.drop off).take len)).map fun x=>(.sl x.1,id::x.2)else none|_=>none)| .mp id row off=>(match L id with|some (some rs)=>(match rs[row]? with|some r=>if off≤r.length then(fq (bK L n) (r.drop off)).map fun x=>(.ay x.1,id::x.2)else none|none=>none)|_=>none)| .mr id=>(match L id with|some (some rs)=>some (.im rs,[id])|_=>none)| .dy rs=>some (.im rs,[])| .own rs len=>(lR (bK L n) (rs.take len)).map fun x=>(.sl x.1,x.2)| .b7 cs=>(fq (bK L n) cs).map fun x=>(.ay x.1,x.2)| .bU=>some (.sl [],[])| .agg cs=>(fq (bK L n) cs).map fun x=>(.agg x.1,x.2)| .aG cs=>(fq (bK L n) cs).map fun x=>(.aG x.1,x.2)| .fn f a b=>(fq (bK L n) a).bind fun x=>(fq (bK L n) b).map fun y=>(.fn f x.1 y.1,x.2++y.2)| .cv _ _=>some (.aK,[])|a=>some (a,[])
def nP(L:Id→Option (Option Rows))(as:List U):Option (List U×List Id):=dm (bK L 9) as
/-! ## One operation -/
def put(o:Oper)(v:U)(rd:List Id)(wr:List (Id×Option Rows)):aJ:={cG:=match o.dst with|some d=>[(d,v)]|none=>[],rd,wr}
def fresh(L:Id→Option (Option Rows))(l:List (Id×Option Rows)):Bool:=l.all fun x=>(L x.1).isNone
def zk(C:av):List Field→Option (List (Nat×Nat×Bool))|[]=>some []|f::l=>match fL C f.type,jl C f.type,zk C l with|some n,some b,some r=>some ((f.offset,n,b)::r)|_,_,_=>none
def Gm(C:av)(t:TypeId):Option (List (Nat×Nat×Bool)):=match C.P.underlying t with|some (.struct fields)=>zk C fields.toList|_=>none
def sv(place:List (Nat×Nat×Bool))(cells:List U):List (Nat×U)→Option (List U)|[]=>some cells|(i,v)::rest=>match place[i]? with|none=>none|some (off,n,b)=>match k5 b v with|none=>none|some cs=>if cs.length=n∧off+n≤cells.length then sv place (cells.take off++cs++cells.drop (off+n)) rest else none
def oW(n:Nat)(b:Bool)(rows:Rows):List (Nat×U)→Option Rows|[]=>some rows|(i,v)::rest=>match k5 b v with|none=>none|some cs=>if cs.length=n∧i<rows.length then oW n b (rows.set i cs) rest else none
def dr:U→Option Int| .val (.int _ n)=>some n|_=>none
def qs(n:Int):U:= .val (.int .i64 n)
def nq:Nat:=4294967296
def rowsOf(L:Id→Option (Option Rows)):U→Option (Rows×List Id)| .sl rows=>some (rows,[])| .bU=>some ([],[])| .rs id off len=>(match L id with|some (some rs)=>if off+len≤rs.length then some ((rs.drop off).take len,[id])else none|_=>none)|_=>none
def pS(rows:Rows):Bool:=rows.all (·.all U.cell)
def qi(a b:List Id):Bool:=a.all fun x=> !b.contains x
def cY:List Id→Bool|[]=>true|x::l=> !l.contains x&&cY l
mutual def mine:U→Bool| .val _| .aK| .bU| .nn| .dy _=>true| .own rows _=>BJ rows| .b7 cells=>jF cells| .agg cells=>jF cells| .aG vs=>jF vs|_=>false def jF:List U→Bool|[]=>true|c::cs=>mine c&&jF cs def BJ:List (List U)→Bool|[]=>true|r::rs=>jF r&&BJ rs end
mutual def cI:U→U| .own rows len=> .sl ((hJ rows).take len)| .b7 cells=> .ay (gI cells)| .dy rows=> .im rows| .agg cells=> .agg (gI cells)| .aG vs=> .aG (gI vs)|x=>x def gI:List U→List U|[]=>[]|c::cs=>cI c::gI cs def hJ:List (List U)→List (List U)|[]=>[]|r::rs=>gI r::hJ rs end
def dI(C:av)(f:FuncId)(d:Option Nat):Bool:=match d with|some d=>(C.dB f).contains d|none=>false
def vK:List U→Bool|[.val _]=>true|[.ay _]=>true|_=>false
def qS(S:ah)(o:Oper)(as:List U):Option aJ:=match as with|[.val (.int .i64 i), .mp id 0 0, .ay cells]=>(match cells[4]?,S.h id with|some (U.sl ks),some (some [[.rs fE 0 n]])=>(match S.h fE,ks[i.toNat]? with|some (some rows),some [.val (.int .i64 c)]=>(match rows[c.toNat]? with|some [x]=>if 0≤i∧0≤c∧n=rows.length∧rows.all vK=true∧en x=true∧o.dst.isSome=true then some (put o x [id,fE] [])else none|_=>none)|_,_=>none)|_,_=>none)|_=>none
def mP(C:av)(f:FuncId)(call:FuncId→List U→Option (U×List U))(S:ah)(o:Oper)(fv:U)(args:List U):Option aJ:=match fv with| .fn (.func k) first caps=>if C.look k then qS S o (first++args++caps)else(match nP S.h (first++args++caps),o.dst with|some (as,seen),some d=>(match call k as with|some (r,[])=>if !seen.isEmpty&& !mine r then none else if fresh S.h (imp [d] (if dI C f o.dst then cI r else r)).2 then some (put o (imp [d] (if dI C f o.dst then cI r else r)).1 seen (imp [d] (if dI C f o.dst then cI r else r)).2)else none|_=>none)|_,_=>none)|_=>none
def tN(C:av):Operand→Bool| .func k=> !(C.vC k).isEmpty|_=>false
def ie(L:Id→Option (Option Rows)):List Nat→List U→Option (List U×List Id×List Id×List Id)|_,[]=>some ([],[],[],[])|ms,a::l=>(ie L ms.tail l).bind fun y=>match ms.headD 0 with|1=>(pk L 9 a).map fun x=>(x.1::y.1,y.2.1,x.2++y.2.2.1,y.2.2.2)|2=>(pk L 9 a).map fun x=>(cI x.1::y.1,y.2.1,y.2.2.1,x.2++y.2.2.2)|_=>(bK L 9 a).map fun x=>(x.1::y.1,x.2++y.2.1,y.2.2.1,y.2.2.2)
def iG(L:Id→Option (Option Rows)):U→U→Option (List (Id×Option Rows))| .mp id 0 0, .b7 cs=>(match L id with|some (some [old])=>if cs.length=old.length then some [(id,some [cs])]else none|_=>none)| .rs id 0 n, .own rows len=>(match L id with|some (some (o1::os))=>if len=n∧rows.length=n∧n=(o1::os).length∧rows.all (·.length==o1.length)then some [(id,some rows)]else none|some (some [])=>if len=0∧rows.length=0∧n=0 then some [(id,some [])]else none|_=>none)| .mr id, .dy rows=>(match L id with|some (some _)=>some [(id,some rows)]|_=>none)| .rs _ _ _,_=>none| .mp _ _ _,_=>none| .mr _,_=>none| .agg _,_=>none|_,_=>some []
def gS(L:Id→Option (Option Rows)):List U→List U→Option (List (Id×Option Rows))|[],[]=>some []|a::as,b::bs=>(match iG L a b,gS L as bs with|some x,some y=>some (x++y)|_,_=>none)|_,_=>none
def pR(L:Id→Option (Option Rows)):U→U→Option (List (Id×Option Rows))| .agg as, .agg bs=>gS L as bs|a,b=>iG L a b
def fJ(L:Id→Option (Option Rows))(args:List U):List Nat→List U→Option (List (Id×Option Rows))|[],[]=>some []|j::l,b::bs=>(match args[j]?,fJ L args l bs with|some a,some y=>(match pR L a b with|some x=>some (x++y)|none=>none)|_,_=>none)|_,_=>none
def nQ(C:av)(f:FuncId)(call:FuncId→List U→Option (U×List U))(S:ah)(o:Oper)(k:FuncId)(args:List U):Option aJ:=match ie S.h (C.vC k) args,o.dst with|some (as,seen,tk,cJ),some d=>(match call k as with|some (r,outs)=>(match fJ S.h args (C.bR k) outs with|some back=>if cY (tk++cJ)&&qi seen (tk++cJ)&&(seen.isEmpty||mine r&&outs.all mine)&&cY (back.map (·.1))&&(back.all fun x=>tk.contains x.1)&&fresh S.h (imp [d] (if dI C f o.dst then cI r else r)).2 then some (put o (imp [d] (if dI C f o.dst then cI r else r)).1 seen ((imp [d] (if dI C f o.dst then cI r else r)).2++(back++(tk++cJ).map fun i=>(i,none))))else none|none=>none)|none=>none)|_,_=>none
def zW(i:TypeInfo):Bool:=match i.zero with|some z=>z.cells.size==i.size|none=>false
def k3(S:ah)(o:Oper)(d m:Nat)(x:U)(xs ys:Rows)(i1 i2:List Id):Option aJ:=match x with| .rs id off _=>(match S.h id with|some (some rows)=>if rows.all (·.length==m)&&decide (off=0)&&(!(xs++ys).isEmpty||rows.isEmpty)then some (put o (.rs [d] 0 (xs.length+ys.length)) (i1++i2) [(id,none),([d],some (xs++ys))])else none|_=>none)| .bU=>some (put o (.rs [d] 0 (xs.length+ys.length)) (i1++i2) [([d],some (xs++ys))])|_=>none
def ur(C:av)(S:ah)(o:Oper)(t:TypeId)(x y:U):Option aJ:=match C.P.underlying t,o.dst with|some (.slice e),some d=>(match C.P.info? e,rowsOf S.h x,rowsOf S.h y with|some i,some (xs,i1),some (ys,i2)=>if ys.all (·.length==i.size)&&decide (0<i.size)&&decide (i.bytes≤4096)&&zW i&&decide (xs.length+ys.length≤nq)&&pS ys&&(S.h [d]).isNone then k3 S o d i.size x xs ys i1 i2 else none|_,_,_=>none)|_,_=>none
def uu(C:av)(S:ah)(o:Oper)(t:TypeId)(x y:U):Option aJ:=match C.P.underlying t,o.dst,dr y with|some (.slice e),some d,some n=>(match C.P.info? e,tU C e,rowsOf S.h x with|some i,some z,some (xs,i1)=>if decide (0≤n∧n≤4294967296)&&decide (z.length=i.size)&&decide (0<i.size)&&decide (i.bytes≤4096)&&zW i&&decide (xs.length+n.toNat≤nq)&&z.all U.cell&&(S.h [d]).isNone then k3 S o d i.size x xs (GE n.toNat z) i1 []else none|_,_,_=>none)|_,_,_=>none
def yX:U→Option Nat| .sl rows=>some rows.length| .rs _ _ len=>some len| .bU=>some 0|_=>none
def yW:TypeDesc→U→Option Nat| .string, .val (.string s)=>some s.size| .slice _,x=>yX x|_,_=>none
def ret(o:Oper)(v:U):Option aJ:=some (put o v [] [])
def iI(o:Oper):Option Value→Option aJ|some v=>if dc v then ret o (.val v)else none|none=>none
def qq(o:Oper)(c a b:U):Option aJ:=match c with| .val (.bool h)=>(match a,b with| .val (.bool x), .val (.bool y)=>ret o (.val (.bool (if h then x else y)))|dL,fN=>ret o (if h then dL else fN))|_=>none
def HE(l:List Nat):Nat→List U→List U|_,[]=>[]|j,c::cs=>(match c with| .own [] 0=>if l.contains j then .sl []else c| .bU=>if l.contains j then .sl []else c|c=>c)::HE l (j+1) cs
def rG(l:List Nat)(cs:List U):List U:=match l with|[]=>cs|l=>HE l 0 cs
def zX(C:av)(f:FuncId)(o:Oper)(cs:List U):List U:=match o.dst with|some d=>rG (C.rF f d) cs|none=>cs
def jQ:U→Bool| .val (.bool h)=>h|_=>false
def oQ(C:av)(f:FuncId)(S:ah)(o:Oper)(t:TypeId):Option aJ:=match tU C t,o.dst with|some cs,some d=>if(S.h [d]).isNone then some (put o (.mp [d] 0 0) [] [([d],some [rG (C.rF f d) cs])])else none|_,_=>none
def mV(C:av)(f:FuncId)(S:ah)(o:Oper)(t:TypeId)(x:U):Option aJ:=match jl C t,o.dst with|some b,some d=>(match k5 b x with|some cs=>if dI C f o.dst&&c9 (iS cs)then ret o (.ay (iS cs))else if(S.h [d]).isNone then some (put o (.mp [d] 0 0) [] [([d],some [cs])])else none|none=>none)|_,_=>none
def ql(C:av)(f:FuncId)(o:Oper)(t:TypeId)(parts:List (Nat×U)):Option aJ:=match tT C t,Gm C t with|some z,some pl=>(match sv pl (zX C f o z) parts with|some cs=>ret o (.agg cs)|none=>none)|_,_=>none
def oR(C:av)(f:FuncId)(S:ah)(o:Oper)(t:TypeId)(len:Nat)(parts:List (Nat×U)):Option aJ:=match C.P.underlying t,o.dst with|some (.slice e),some d=>(match tT C e,jl C e,fL C e with|some z,some b,some n=>if decide (0<n)&&decide (n=z.length)&&decide (len*n≤1000)then match oW n b (GE len z) parts with|some rows=>if dI C f o.dst&&jk (rows.map iS)then ret o (.sl (rows.map iS))else if(S.h [d]).isNone then some (put o (.rs [d] 0 len) [] [([d],some rows)])else none|none=>none else none|_,_,_=>none)|_,_=>none
def uy(C:av)(t:TypeId)(len:Nat)(parts:List (Nat×U)):Option Rows:=match C.P.underlying t with|some (.slice e)=>(match tT C e,jl C e,fL C e with|some z,some b,some n=>if decide (0<n)&&decide (n=z.length)&&decide (len*n≤1000)then oW n b (GE len z) parts else none|_,_,_=>none)|_=>none
def Dk(C:av)(f:FuncId)(o:Oper)(t:TypeId)(len:Nat)(parts:List (Nat×U)):Bool:=dI C f o.dst&&(match uy C t len parts with|some rows=> !jk (rows.map iS)|none=>false)
def xz(C:av)(S:ah)(o:Oper)(t:TypeId)(len:Nat)(parts:List (Nat×U)):Option aJ:=match uy C t len parts,o.dst with|some rows,some _=>(match mA (pk S.h 8) rows with|some (aL,ids)=>if cY ids then some (put o (.sl (hJ aL)) ids (ids.map fun i=>(i,none)))else none|none=>none)|_,_=>none
def mW(C:av)(f:FuncId)(S:ah)(o:Oper)(t:TypeId)(len:Nat)(parts:List (Nat×U)):Option aJ:=if Dk C f o t len parts then xz C S o t len parts else oR C f S o t len parts
def gv(o:Oper):Id:=match o.dst with|some d=>[d]|none=>[1000000]
def jU(C:av)(S:ah)(o:Oper)(t:TypeId)(a:U):Option aJ:=match jl C t,fL C t with|some b,some n=>(match a with| .ay cells=>if n≤cells.length then(gN b (cells.take n)).map fun v=>put o v [] []else none| .mp id row off=>(match S.h id with|some (some rows)=>(rows[row]?).bind fun r=>if off+n≤r.length then if(bl (gv o) 0 ((r.drop off).take n)).2.isEmpty then(gN b (bl (gv o) 0 ((r.drop off).take n)).1).map fun v=>put o v [id] []else if fresh S.h (bl (gv o) 0 ((r.drop off).take n)).2 then(gN b (bl (gv o) 0 ((r.drop off).take n)).1).map fun v=>put o v [id] ((id,some (rows.set row (r.take off++(bl (gv o) 0 ((r.drop off).take n)).1++r.drop (off+n))))::(bl (gv o) 0 ((r.drop off).take n)).2)else none else none|_=>none)|_=>none)|_,_=>none
def sy(C:av)(f:FuncId)(a:Operand):Option Nat:=match a with| .tmp ta=>if(C.dB f).contains ta then some ta else none|_=>none
def k7(C:av)(f:FuncId)(S:ah)(g:Bool)(o:Oper)(t:TypeId)(ao:Operand)(a x:U):Option aJ:=match jl C t,fL C t with|some b,some n=>(match a,k5 b x with| .mp id row off,some cs=>if cs.length≠n then none else(match S.h id with|some (some rows)=>(rows[row]?).bind fun r=>if off+n≤r.length then match sy C f ao with|some ta=>if decide (off=0)&&decide (n=r.length)&&decide (rows.length=1)&&decide (row=0)&&c9 (iS cs)&&g&&o.dst.isNone then some {cG:=[(ta, .ay (iS cs))],rd:=[id],wr:=[(id,none)]}else none|none=>if o.dst.isNone then some (put o .aK [id] [(id,some (rows.set row (r.take off++cs++r.drop (off+n))))])else none else none|_=>none)|_,_=>none)|_,_=>none
def uN(o:Oper):U→Option aJ| .ay cs=>ret o (.ay cs)| .mp id row off=>ret o (.mp id row off)| .fn (.func k) a b=>ret o (.fn (.func k) a b)|_=>none
def cV(P:Program)(op:BinOp)(t:TypeId)(x y:Operand)(a b:Value):Option Value:=bY P (do eqGuard op t x y a b;binOp op t a b)
def wI(P:Program)(op:UnOp)(a:Value):Option Value:=bY P (Op.unary op a)
def AQ(P:Program)(src dst:TypeId)(a:Value):Option Value:=bY P (convert src dst a)
def BH(P:Program)(ts:Array TypeId)(t:TypeId)(vs:List Value):Option Value:=bY P (Builtin.max_ ts t ⟨vs⟩)
def BI(P:Program)(ts:Array TypeId)(t:TypeId)(vs:List Value):Option Value:=bY P (Builtin.min_ ts t ⟨vs⟩)
def FL(op:BinOp)(a b:U):Option Bool:=match op,a,b with| .eql, .nn, .val .nilIface=>some false| .eql, .val .nilIface, .nn=>some false| .neq, .nn, .val .nilIface=>some true| .neq, .val .nilIface, .nn=>some true|_,_,_=>none
def Cb(op:BinOp)(a b:U):Option Bool:=match op,a,b with| .eql, .ay _, .val (.pointer none)=>some false| .neq, .ay _, .val (.pointer none)=>some true|_,_,_=>none
def jT(C:av)(o:Oper)(op:BinOp)(t:TypeId)(x y:Operand)(a b:U):Option aJ:=match jr a,jr b with|some a,some b=>iI o (cV C.P op t x y a b)|_,_=>match C.P.underlying t,FL op a b with|some (.interface _),some r=>ret o (.val (.bool r))|some (.pointer _),_=>(match Cb op a b with|some r=>ret o (.val (.bool r))|none=>none)|_,_=>none
def qn(C:av)(o:Oper)(t:TypeId)(x:U):Option aJ:=match C.P.underlying t with|some (.interface _)=>none|some _=>(match x with| .val v=>if dc (.iface t v)then ret o (.val (.iface t v))else ret o .nn|_=>ret o .nn)|none=>none
def su(C:av)(o:Oper)(op:UnOp):U→Option aJ| .val a=>iI o (wI C.P op a)|_=>none
def xA(C:av)(o:Oper)(src dst:TypeId):U→Option aJ| .val a=>iI o (AQ C.P src dst a)|_=>none
def qf(C:av)(src dst:TypeId):Bool:=match C.P.underlying src,C.P.underlying dst with|some _,some (.slice e)=>(match C.P.underlying e with|some (.int .u8)=>true|_=>false)|_,_=>false
def xd(s:ByteArray):Rows:=s.data.toList.map fun b=>[.val (.int .u8 b.toNat)]
def AW(o:Oper):U→Option aJ| .val (.string s)=>ret o (.sl (xd s))|_=>none
def oS(C:av)(o:Oper)(src dst:TypeId)(x:U):Option aJ:=if qf C src dst then AW o x else xA C o src dst x
def oT(C:av)(S:ah)(o:Oper)(t:TypeId)(l c:U):Option aJ:=match C.P.underlying t,o.dst,dr l,dr c with|some (.slice e),some d,some l,some c=>(match tU C e,C.P.info? e with|some z,some i=>if decide (0<z.length)&&decide (i.size=z.length)&&decide (i.bytes≤4096)&&decide (0≤l∧l≤c∧c≤4294967296∧(0<l∨c=0))&&(S.h [d]).isNone then some (put o (.rs [d] 0 l.toNat) [] [([d],some (GE l.toNat z))])else none|_,_=>none)|_,_,_,_=>none
def bounds(lo hi:Option (Option Int))(len:Nat):Option (Nat×Nat):=match(match lo with|none=>some 0|some l=>l),(match hi with|none=>some (len:Int)|some h=>h)with|some l,some h=>if 0≤l∧l≤h∧h≤len then some (l.toNat,h.toNat)else none|_,_=>none
def mX(C:av)(S:ah)(o:Oper)(t:TypeId)(x:U)(lo hi:Option (Option Int)):Option aJ:=match C.P.underlying t with|some (.slice e)=>(match x,fL C e with| .sl rows,some sz=>(bounds lo hi rows.length).bind fun b=>if 0<sz∧rows.all (·.length==sz)then ret o (.sl ((rows.take b.2).drop b.1))else none| .rs id off len,some sz=>(match S.h id with|some (some rows)=>(bounds lo hi len).bind fun b=>if off+len≤rows.length∧0<sz∧rows.all (·.length==sz)then some (put o (.rs id (off+b.1) (b.2-b.1)) [id] [])else none|_=>none)|_,_=>none)|some .string=>(match x with| .val (.string s)=>(bounds lo hi s.size).bind fun b=>ret o (.val (.string (s.extract b.1 b.2)))|_=>none)|_=>none
def xD(C:av)(s:TypeId)(i:Nat):Option (Nat×Nat×Bool):=match C.P.underlying s with|some (.struct fields)=>(match fields[i]? with|some fl=>(match fL C fl.type,jl C fl.type with|some n,some b=>some (fl.offset,n,b)|_,_=>none)|none=>none)|_=>none
def nV(C:av)(f:FuncId)(o:Oper)(s:TypeId)(i:Nat)(x:U):Option aJ:=match xD C s i with|some (off,n,_)=>(match x with| .ay cells=>if 0<n∧off≤cells.length then(if dI C f o.dst then(if off+n≤cells.length then ret o (.ay ((cells.drop off).take n))else none)else ret o (.ay (cells.drop off)))else none| .mp id row off'=>if 0<n then ret o (.mp id row (off'+off))else none|_=>none)|none=>none
def uM(C:av)(o:Oper)(s:TypeId)(i:Nat)(x:U):Option aJ:=match xD C s i with|some (off,n,b)=>(match x with| .agg cells=>if off+n≤cells.length then(gN b ((cells.drop off).take n)).map fun v=>put o v [] []else none|_=>none)|none=>none
def k6(C:av)(S:ah)(o:Oper)(t:TypeId)(x:U)(i:Option Int):Option aJ:=match C.P.underlying t,i with|some (.slice e),some i=>(match fL C e,x with|some n, .sl rows=>if 0≤i then(rows[i.toNat]?).bind fun r=>if r.length=n∧0<n then ret o (.ay r)else none else none|some n, .rs id off len=>if 0≤i∧i<len then match S.h id with|some (some rows)=>(rows[off+i.toNat]?).bind fun r=>if r.length=n then some (put o (.mp id (off+i.toNat) 0) [id] [])else none|_=>none else none|_,_=>none)|some (.array len e),some i=>(match fL C e,x with|some n, .ay cells=>if 0≤i∧i<len∧i.toNat*n≤cells.length then ret o (.ay (cells.drop (i.toNat*n)))else none|some n, .mp id row off=>if 0≤i∧i<len then ret o (.mp id row (off+i.toNat*n))else none|_,_=>none)|_,_=>none
def qo(C:av)(o:Oper)(t:TypeId)(x:U)(i:Option Int):Option aJ:=match C.P.underlying t,i,x with|some .string,some i, .val (.string s)=>if 0≤i then(s[i.toNat]?).bind fun b=>ret o (.val (.int .u8 b.toNat))else none|some (.array len e),some i, .agg cells=>(match fL C e,jl C e with|some n,some b=>if 0≤i∧i<len∧(i.toNat+1)*n≤cells.length then(gN b ((cells.drop (i.toNat*n)).take n)).map fun v=>put o v [] []else none|_,_=>none)|_,_,_=>none
def uL(o:Oper)(x:U)(i:Nat):Option aJ:=match x with| .aG vs=>(match vs[i]? with|some v=>ret o v|none=>none)|_=>none
def nW(C:av)(o:Oper)(ts:Array TypeId)(xs:List U):Option aJ:=match xs with|[x]=>(match(ts[0]?).bind C.P.underlying with|some d=>(match yW d x with|some n=>ret o (qs n)|none=>none)|none=>none)|_=>none
def oY(C:av)(f:FuncId)(o:Oper)(e:aJ):Option aJ:=if dI C f o.dst then match o.dst,e.wr with|some d,[(id,none),(d',some rows)]=>if d'=[d]∧jk rows=true then some (put o (.sl rows) e.rd [(id,none),([d],none)])else none|some d,[(d',some rows)]=>if d'=[d]∧jk rows=true then some (put o (.sl rows) e.rd [([d],none)])else none|_,_=>none else some e
def kB(C:av)(S:ah)(o:Oper)(ts:Array TypeId)(xs:List U):Option aJ:=match xs,ts[0]?,(ts[1]?).bind C.P.underlying with|[x,y],some t,some (.slice _)=>ur C S o t x y|[x,y],some t,some (.int _)=>uu C S o t x y|_,_,_=>none
def pathOf(C:av):Operand→Option (Nat×Nat)| .func k=>C.path k|_=>none
def qp(S:ah)(o:Oper)(p:Nat×Nat):List U→Option aJ|[.mp id row off]=>(match S.h id with|some (some rows)=>(match(rows[row]?).bind fun r=>r[off+p.1]? with|some (.rs fE off2 len)=>(match S.h fE with|some (some dR)=>if decide (0<len)&&decide (len≤nq)&&decide (off2+len≤dR.length)&&dR.all (·.length==p.2)then some (put o (.mp fE (off2+(len-1)) 0) [id,fE] [])else none|_=>none)|_=>none)|_=>none)|[.ay cells]=>(match cells[p.1]? with|some (.sl rows)=>if decide (rows.length≤nq)&&rows.all (·.length==p.2)then(rows[rows.length-1]?).map fun r=>put o (.ay r) [] []else none|_=>none)|_=>none
def B1:List U→Bool|[.val _]=>true|_=>false
def sn(C:av)(S:ah)(o:Oper)(ts:Array TypeId)(xs:List U):Option aJ:=match xs,(ts[0]?).bind C.P.underlying with|[x,y],some (.slice e)=>(match fL C e,x,rowsOf S.h y with|some 1, .rs id off len,some (ys,i2)=>(match S.h id with|some (some rows)=>if ys.all B1&&rows.all (·.length==1)&&decide (off+len≤rows.length)then some (put o (qs ((min ys.length len:Nat):Int)) (id::i2) [(id,some (rows.take off++ys.take (min ys.length len)++rows.drop (off+min ys.length len)))])else none|_=>none)|_,_,_=>none)|_,_=>none
/-! Maps: keys and values of one cell without an address. -/
def GQ:TypeDesc→Bool| .int _| .string| .bool=>true|_=>false
def yZ(L:Id→Option (Option Rows)):U→Option (Rows×List Id)| .mr id=>(match L id with|some (some rows)=>some (rows,[id])|_=>none)| .im rows=>some (rows,[])| .val (.map none)=>some ([],[])|_=>none
def nX(kind:TypeDesc)(k:Value):Rows→Option (Option Value)|[]=>some none|[.val k', .val v]::rs=>(match Instr.sameNow kind k k' with|some true=>some (some v)|some false=>nX kind k rs|none=>none)|_=>none
def zm(kind:TypeDesc)(k v:Value):Rows→Option Rows|[]=>some [[.val k, .val v]]|[.val k', .val v']::rs=>(match Instr.sameNow kind k k' with|some true=>some ([.val k, .val v]::rs)|some false=>(zm kind k v rs).map fun y=>[.val k', .val v']::y|none=>none)|_=>none
def GO(C:av)(t:TypeId):Option Value:=match(C.P.info? t).bind (·.zero)with|some v=>if dc v then some v else none|none=>none
def vA(C:av)(t:TypeId):Option (TypeDesc×Value):=match C.P.underlying t with|some (.map kt et)=>(match C.P.underlying kt,GO C et with|some kind,some z=>if GQ kind then some (kind,z)else none|_,_=>none)|_=>none
def sr(C:av)(S:ah)(o:Oper)(t:TypeId)(r:Option Operand):Option aJ:=match vA C t,o.dst with|some _,some d=>if r.isNone&&(S.h [d]).isNone then some (put o (.mr [d]) [] [([d],some [])])else none|_,_=>none
def so(C:av)(S:ah)(o:Oper)(t:TypeId)(x k:U)(ok:Bool):Option aJ:=match vA C t,yZ S.h x,k with|some (kind,z),some (rows,ids), .val kv=>(nX kind kv rows).map fun r=>put o (if ok then .aG [.val (r.getD z), .val (.bool r.isSome)]else .val (r.getD z)) ids []|_,_,_=>none
def oU(C:av)(S:ah)(o:Oper)(t:TypeId)(x k v:U):Option aJ:=match vA C t,x,k,v with|some (kind,_), .mr id, .val kv, .val kS=>(match S.h id with|some (some rows)=>if dc kv&&dc kS&&o.dst.isNone then(zm kind kv kS rows).map fun aL=>put o .aK [id] [(id,some aL)]else none|_=>none)|_,_,_,_=>none
/-! Names that keep their place through a body: they end with a mark. -/
def fY:Nat:=999999
def gL:Id→Bool|[]=>false|[x]=>x==fY|_::y::l=>gL (y::l)
def oh(i q:Id):Id:=if gL i then i else if gL q then q++[0]else q
/-! What lives at a loop's head where names may be shared: the state itself, under names of its own. -/
def eN(l:List (Id×Id))(i:Id):Option Id:=match l with|[]=>none|(o,k)::l=>if o=i then some k else eN l i
def tG(l:List (Id×Id)):U→Option U| .rs i off len=>(eN l i).map fun k=> .rs k off len| .mp i row off=>(eN l i).map fun k=> .mp k row off| .mr i=>(eN l i).map fun k=> .mr k| .bU=>some .bU|a=>if flat a then some a else none
def vW(l:List (Id×Id)):List U→Option (List U)|[]=>some []|a::as=>match tG l a,vW l as with|some b,some bs=>some (b::bs)|_,_=>none
def ny(l:List (Id×Id)):U→Option U| .fn k as cs=>if cg as&&cg cs then some (.fn k as cs)else(match vW l as,vW l cs with|some x,some y=>some (.fn k x y)|_,_=>none)|a=>tG l a
def iW(l:List (Id×Id)):List U→Option (List U)|[]=>some []|a::as=>match ny l a,iW l as with|some b,some bs=>some (b::bs)|_,_=>none
def dW(l:List (Id×Id)):U→U| .agg cs=>(match iW l cs with|some bs=> .agg bs|none=> .aK)| .aG cs=>(match iW l cs with|some bs=> .aG bs|none=> .aK)| .fn f as cs=>(match iW l as,iW l cs with|some bs,some ds=> .fn f bs ds|_,_=> .aK)|a=>match ny l a with|some b=>b|none=> .aK
def vZ(l:List (Id×Id)):Rows→Option Rows|[]=>some []|r::rs=>match iW l r,vZ l rs with|some b,some bs=>some (b::bs)|_,_=>none
def jL(l:List (Id×Id))(rows:Rows):Option Rows:=if dA rows then some rows else vZ l rows
def ek(L:Id→Option (Option Rows)):Nat→Id→Nat→List (Id×Id)→List U→List (Id×Id)|0,_,_,acc,_=>acc|_,_,_,acc,[]=>acc|n+1,p,j,acc,a::as=>ek L n p (j+1) (match a with| .rs i _ _=>if(eN acc i).isSome then acc else acc++[(i,oh i (j::p))]| .mr i=>if(eN acc i).isSome then acc else acc++[(i,oh i (j::p))]| .mp i _ _=>if(eN acc i).isSome then acc else(match L i with|some (some [cs])=>ek L n (j::p) 0 (acc++[(i,oh i (j::p))]) cs|_=>acc++[(i,oh i (j::p))])| .agg cs=>ek L n (j::p) 0 acc cs| .fn _ as cs=>if cg as&&cg cs then acc else ek L n (j::p) 0 acc (as++cs)|_=>acc) as
def mb(L:Id→Option (Option Rows))(l:List (Id×Id)):List (Id×Id)→Option (List (Id×Rows))|[]=>some []|(o,k)::r=>match L o,mb L l r with|some (some rows),some y=>(jL l rows).map fun aL=>(k,aL)::y|_,_=>none
def kN(l:List (Id×Id))(t:Nat→U):List Nat→Nat→U|[]=>fun _=> .aK|s::r=>ai (kN l t r) s (dW l (t s))
def gM:List (Id×Rows)→Id→Option (Option Rows)|[]=>fun _=>none|(k,rows)::r=>ai (gM r) k (some (some rows))
def names(S:ah)(slots:List Nat):List (Id×Id):=slots.foldl (fun acc s=>ek S.h 40 [s] 0 acc [S.t s]) []
def Lh(keep:Id→Bool):U→Bool| .rs i _ _=>keep i| .mp i _ _=>keep i| .mr i=>keep i|a=>flat a
def qR(keep:Id→Bool)(l:List U):Bool:=l.all (Lh keep)
def e5(L:Id→Option (Option Rows))(keep:Id→Bool):U→Option (U×List Id)| .rs i off len=>if keep i then some (.rs i off len,[])else pk L 8 (.rs i off len)| .mp i row off=>if keep i then some (.mp i row off,[])else pk L 8 (.mp i row off)| .mr i=>if keep i then some (.mr i,[])else pk L 8 (.mr i)| .bU=>some (.own [] 0,[])| .fn k as cs=>if qR keep as&&qR keep cs then some (.fn k as cs,[])else none|a=>if flat a then some (a,[])else none
def jc(L:Id→Option (Option Rows))(keep:Id→Bool)(r:List U):Option (List U×List Id):=if cg r then some (r,[])else dm (e5 L keep) r
def pH(l:List (Id×Id))(i:Id):Bool:=(eN l i).isSome
/-! Graph calls: arguments as they stand, and the objects that they lead to. -/
def kF(C:av):U→Option (FuncId×List U×List U)| .fn (.func k) first caps=>if C.fD k then some (k,first,caps)else none|_=>none
def c6(L:Id→Option (Option Rows)):Nat→Bool→Id→Nat→List (Id×Id)→List U→List (Id×Id)|0,_,_,_,acc,_=>acc|_,_,_,_,acc,[]=>acc|n+1,b,p,j,acc,a::as=>c6 L n b p (j+1) (match a with| .rs i _ _=>if !b||(eN acc i).isSome then acc else acc++[(i,j::p)]| .mr i=>if !b||(eN acc i).isSome then acc else acc++[(i,j::p)]| .mp i _ _=>if(eN acc i).isSome then acc else(match L i with|some (some [cs])=>c6 L n false (j::p) 0 (acc++[(i,j::p)]) cs|_=>acc++[(i,j::p)])| .agg cs=>c6 L n b (j::p) 0 acc cs| .fn _ as cs=>c6 L n true (j::p) 0 acc (as++cs)|_=>acc) as
def kA(L:Id→Option (Option Rows))(keep:Id→Bool)(rows:Rows):Option (Rows×List Id):=if dA rows then some (rows,[])else dU (jc L keep) rows
def fZ(L:Id→Option (Option Rows))(l:List (Id×Id)):List (Id×Id)→Option (List U×List Id)|[]=>some ([],[])|(o,k)::r=>match L o with|some (some rows)=>(kA L (pH l) rows).bind fun x=>(jL l x.1).bind fun aL=>(fZ L l r).map fun y=>(.bf k aL::y.1,x.2++y.2)|_=>none
def gh(l':List (Id×Id)):List (Id×Id)→List U→Option (List (Id×Option Rows))|[],[]=>some []|(o,k)::r, .bf k' rows::outs=>if k'=k then(jL l' rows).bind fun aL=>(gh l' r outs).map fun y=>(o,some aL)::y else none|(o,_)::r, .aK::outs=>(gh l' r outs).map fun y=>(o,none)::y|_,_=>none
structure tX where
 r:U
 l:List (Id×Id)
 back:List (Id×Option Rows)
 gone:List Id
def xO(call:FuncId→List U→Option (U×List U))(L:Id→Option (Option Rows))(k:FuncId)(args:List U)(l:List (Id×Id)):Option tX:=match fZ L l l with|some (obs,gone)=>if cY (l.map (·.1))&&cY (l.map (·.2))&&(l.all fun x=>gL x.2)&&cY gone&&qi gone (l.map (·.1))then match call k (.aG obs::args.map (dW l))with|some (r,outs)=>(gh (l.map fun x=>(x.2,x.1)) l outs).map fun back=>⟨r,l,back,gone⟩|none=>none else none|none=>none
def nY(call:FuncId→List U→Option (U×List U))(L:Id→Option (Option Rows))(k:FuncId)(args:List U):Option tX:=xO call L k args (c6 L 60 true [fY] 0 [] args)
def tI(L:Id→Option (Option Rows))(b:Id×Option Rows):Bool:=match L b.1,b.2 with|some (some [[.mp i r f]]),some [[.mp i' r' f']]=>i==i'&&r==r'&&f==f'|_,_=>false
def gY(L:Id→Option (Option Rows))(back:List (Id×Option Rows)):List (Id×Option Rows):=back.filter fun b=> !tI L b
def vr:U→Bool| .vM _=>true|_=>false
def mQ(C:av)(f:FuncId)(call:FuncId→List U→Option (U×List U))(S:ah)(o:Oper)(k:FuncId)(args:List U):Option aJ:=
 (nY call S.h k args).bind fun x=>
  if vr x.r then none else
  let y:=imp (gv o) (dW (x.l.map fun x=>(x.2,x.1)) (if dI C f o.dst then(if flat x.r then cI x.r else .aK)else x.r))
  if fresh S.h y.2 then some (put o y.1 (x.l.map (·.1)) (y.2++(gY S.h x.back++x.gone.map fun i=>(i,none))))else none
def aR(C:av)(f:FuncId)(call:FuncId→List U→Option (U×List U))(S:ah)(g:Bool)(o:Oper):Option aJ:=match o.op with| .move x=>ret o (un g (S.get C x))| .assign x=>ret o (un g (S.get C x))| .pick c a b=>qq o (un g (S.get C c)) (un (g&&jQ (un g (S.get C c))) (S.get C a)) (un (g&& !jQ (un g (S.get C c))) (S.get C b))| .alloc t=>oQ C f S o t| .box t x=>mV C f S o t (un g (S.get C x))| .build t parts=>ql C f o t (parts.toList.map fun p=>(p.1,un g (S.get C p.2)))| .buildSlice t len parts=>mW C f S o t len (parts.toList.map fun p=>(p.1,un g (S.get C p.2)))| .load t a=>jU C S o t (un g (S.get C a))| .store t a x=>k7 C f S g o t a (un g (S.get C a)) (un g (S.get C x))| .nilCheck x=>uN o (un g (S.get C x))| .binOp op t x y _=>jT C o op t x y (un g (S.get C x)) (un g (S.get C y))| .unOp op _ x=>su C o op (un g (S.get C x))| .convert src dst x=>oS C o src dst (un g (S.get C x))| .makeInterface t x=>qn C o t (un g (S.get C x))| .makeFunc fn first caps=>ret o (.fn fn (first.toList.map fun x=>un g (S.get C x)) (caps.toList.map fun x=>un g (S.get C x)))| .makeSlice t l c=>oT C S o t (un g (S.get C l)) (un g (S.get C c))| .slice t x lo hi mx=>if mx.isSome then none else mX C S o t (un g (S.get C x)) (lo.map fun y=>dr (un g (S.get C y))) (hi.map fun y=>dr (un g (S.get C y)))| .fieldAddr s x i=>nV C f o s i (un g (S.get C x))| .field s x i=>uM C o s i (un g (S.get C x))| .indexAddr t x i=>k6 C S o t (un g (S.get C x)) (dr (un g (S.get C i)))| .index t x i=>qo C o t (un g (S.get C x)) (dr (un g (S.get C i)))| .extract x i=>uL o (un g (S.get C x)) i| .makeMap t r=>sr C S o t r| .lookup t x k ok=>so C S o t (un g (S.get C x)) (un g (S.get C k)) ok| .mapUpdate t x k v=>oU C S o t (un g (S.get C x)) (un g (S.get C k)) (un g (S.get C v))| .insert t x k v=>oU C S o t (un g (S.get C x)) (un g (S.get C k)) (un g (S.get C v))| .call c=>(match c.callee with| .builtin .len=>nW C o c.argTypes (c.args.toList.map fun x=>un g (S.get C x))| .builtin .append=>(kB C S o c.argTypes (c.args.toList.map fun x=>un g (S.get C x))).bind (oY C f o)| .builtin .copy=>sn C S o c.argTypes (c.args.toList.map fun x=>un g (S.get C x))| .builtin .max=>(match gp (c.args.toList.map fun x=>un g (S.get C x))with|some vs=>iI o (BH C.P c.argTypes o.type vs)|none=>none)| .builtin .min=>(match gp (c.args.toList.map fun x=>un g (S.get C x))with|some vs=>iI o (BI C.P c.argTypes o.type vs)|none=>none)| .value bW=>(match kF C (un g (S.get C bW))with|some x=>mQ C f call S o x.1 (x.2.1++(c.args.toList.map fun x=>un g (S.get C x))++x.2.2)|none=>match pathOf C bW with|some p=>qp S o p (c.args.toList.map fun x=>un g (S.get C x))|none=>if tN C bW then(match bW with| .func k=>nQ C f call S o k (c.args.toList.map fun x=>un g (S.get C x))|_=>none)else mP C f call S o (un g (S.get C bW)) (c.args.toList.map fun x=>un g (S.get C x)))|_=>none)|_=>none
/-! ## Regions -/
def nZ(S:ah)(ops:Array Oper)(o:Oper):Option Bool:=match o.guard with|none=>some true|some (j,want)=>match(ops[j]?).bind (·.dst)with|some d=>(match S.t d with| .val (.bool b)=>some (b==want)| .cv g (.val (.bool b))=>some (g&&(b==want))| .cv false _=>some false|_=>none)|none=>none
def vt(o:Oper):aJ:=put o (.cv false .aK) [] []
def qm(C:av)(f:FuncId)(call:FuncId→List U→Option (U×List U))(S:ah)(ops:Array Oper)(o:Oper):Option aJ:=match nZ S ops o with|none=>none|some g=>match o.guard with|none=>aR C f call S true o|some _=>match aR C f call S g o with|some e=>if e.wr.isEmpty then some {e with cG:=e.cG.map fun x=>(x.1, .cv g x.2)}else if g then some e else some (vt o)|none=>if g then none else some (vt o)
abbrev gV:=Nat×List Id×List Id
def hkey(i:Nat)(e:aJ)(l:List gV):List gV:=if e.rd.isEmpty&&e.wr.isEmpty then l else(i,e.rd,e.wr.map (·.1))::l
def jw(C:av)(f:FuncId)(call:FuncId→List U→Option (U×List U))(ops:Array Oper):Nat→List Oper→ah→Option (ah×List gV)|_,[],S=>some (S,[])|i,o::l,S=>(qm C f call S ops o).bind fun e=>if e.cG.all fun x=>decide (x.1<S.n)then(jw C f call ops (i+1) l (S.app e)).map fun x=>(x.1,hkey i e x.2)else none
def nA(C:av)(f:FuncId)(o:Oper):List Nat:=o.dst.toList++(match o.op with| .store _ a _=>(sy C f a).toList|_=>[])
def slotsOf(ops:Array Oper)(o:Oper):List Nat:=(o.op.operands.toList.filterMap fun| .tmp t=>some t|_=>none)++(match o.guard with|some (j,_)=>(match(ops[j]?).bind (·.dst)with|some d=>[d]|none=>[])|none=>[])
def w7(C:av)(f:FuncId)(ops:Array Oper)(oi oj:Oper):Bool:=((nA C f oi).all fun x=> !(slotsOf ops oj).contains x&& !(nA C f oj).contains x)&&((nA C f oj).all fun y=> !(slotsOf ops oi).contains y)
def y3(a s:List Nat):List Nat:=a.foldl (fun s x=>if s.contains x then s else x::s) s
def Aw(ops:Array Oper):List (List Nat):=ops.toList.foldl (init:=[]) fun acc o=>acc++[o.after.toList.foldl (init:=[]) fun s e=>if Region.binds .any e then(if s.contains e.on then s else e.on::y3 (acc.getD e.on []) s)else s]
def wo(C:av)(f:FuncId)(id:Nat)(ops:Array Oper):Bool:=
 let b:=Aw ops
 let l:=ops.toList.zipIdx
 Region.noSelect ops&&(l.all fun x=>l.all fun y=>if x.2<y.2 then(b.getD y.2 []).contains x.2||w7 C f ops x.1 y.1 else true)&&
 (l.all fun x=>x.1.after.all fun e=> !Region.binds .any e||decide (e.on<x.2))&&(C.jb f id).all fun p=>(b.getD p.2 []).contains p.1
def qj(a b:gV):Bool:=(a.2.2.all fun x=> !b.2.1.contains x&& !b.2.2.contains x)&&(b.2.2.all fun x=> !a.2.1.contains x)
def qD(jb:List (Nat×Nat)):List gV→Bool|[]=>true|x::l=>(l.all fun y=>jb.contains (x.1,y.1)||qj x y)&&qD jb l
def lY(C:av)(f:FuncId)(call:FuncId→List U→Option (U×List U))(id:Nat)(ops:Array Oper)(draw:Bool)(S:ah):Option ah:=(jw C f call ops 0 ops.toList S).bind fun x=>if draw then(if qD (C.jb f id) x.2 then some x.1 else none)else some x.1
/-! ## Code -/
def jV:Code→Option Nat| .region id _ _=>some id| .seq a b=>(match jV a with|some i=>some i|none=>jV b)| .cond _ a b=>(match jV a with|some i=>some i|none=>jV b)| .block _ c=>jV c| .loop c=>jV c| .scope c=>jV c|_=>none
def gR(L:Id→Option (Option Rows))(t:Nat→U):List Nat→Option (List U×List Id)|[]=>some ([],[])|s::l=>(pk L 9 (t s)).bind fun x=>(gR L t l).map fun y=>(x.1::y.1,x.2++y.2)
def gz(S:ah)(slots:List Nat):Option (List U):=match gR S.h S.t slots with|some (bB,ids)=>if cY ids then some bB else none|none=>none
def aC(n:Nat):List Nat→List U→ah
 |s::l,v::vs=>
  let S:=aC n l vs
  {n,t:=ai S.t s (imp [s] v).1,h:=aI S.h (imp [s] v).2}
 |_,_=>{n,t:=fun _=> .aK,h:=fun _=>none}
def mR(keep:Id→Bool)(S:ah)(o:Id):Option ah:=match S.h o with|some (some rows)=>if dA rows then some S else(match dU (jc S.h keep) rows with|some (aL,ids)=>if cY ids&& !ids.contains o then some ⟨S.n,S.t,aI S.h ((o,some aL)::ids.map fun i=>(i,none))⟩else none|none=>none)|_=>none
def gG(keep:Id→Bool):List Id→ah→Option ah|[],S=>some S|o::l,S=>(mR keep S o).bind (gG keep l)
def nt(S:ah)(s:Nat):ah:=match S.t s,S.h [s,s]with| .bU,none=>⟨S.n,ai S.t s (.rs [s,s] 0 0),ai S.h [s,s] (some (some []))⟩|_,_=>S
def hU:List Nat→ah→ah|[],S=>S|s::l,S=>hU l (nt S s)
def pM(l:List (Id×Id))(slots:List Nat)(S:ah):Option ah:=if cY (l.map (·.1))&&cY (l.map (·.2))&&l.all (fun x=> !gL x.2||x.1==x.2)then(mb S.h l l).map fun hl=>⟨S.n,kN l S.t slots,gM hl⟩else none
def y7(S:ah)(slots:List Nat)(l:List (Id×Id)):Option ah:=(gG (pH l) (l.map (·.1)) S).bind (pM l slots)
def norm(S:ah)(slots:List Nat):Option ah:=y7 (hU slots S) slots (names (hU slots S) slots)
def c7(o:Option (Bool×List Nat))(S:ah):Option ah:=match o with|none=>some S|some (true,l)=>norm S l|some (false,l)=>(gz S l).map (aC S.n l)
def fK(C:av)(f:FuncId)(b:Code):Option (Bool×List Nat):=match jV b with|some i=>C.AR f i|none=>none
def l6(S:ah)(s:Nat):Option ah:=match pk S.h 9 (S.t s)with|some (v,ids)=>if cY ids then some ⟨S.n,ai S.t s (cI v),aI S.h (ids.map fun i=>(i,none))⟩else none|none=>none
def l5(S:ah)(s:Nat):Option ah:=match S.t s with| .mp id 0 0=>(match S.h id with|some (some [cells])=>if c9 cells then some ⟨S.n,ai S.t s (.ay cells),ai S.h id (some none)⟩else none|_=>none)| .rs _ _ _=>l6 S s| .bU=>l6 S s| .mr _=>l6 S s| .sl _=>some S|_=>none
def iP:List Nat→ah→Option ah|[],S=>some S|s::l,S=>(l5 S s).bind (iP l)
def pN(p:Nat)(S:ah)(s:Nat):Option ah:=match S.t s with| .mp id _ _=>(match S.h id with|some (some [r])=>if(bl [p,s] 0 r).2.isEmpty then some S else if s<S.n∧fresh S.h (bl [p,s] 0 r).2=true then some ⟨S.n,S.t,aI S.h ((id,some [(bl [p,s] 0 r).1])::(bl [p,s] 0 r).2)⟩else none|_=>none)|_=>none
def jI(p:Nat):List Nat→ah→Option ah|[],S=>some S|s::l,S=>(pN p S s).bind (jI p l)
def lU(C:av)(f:FuncId)(id:Nat)(S:ah):Option ah:=(jI (1000+id) (C.gP f id) S).bind fun aT=>(iP (C.iQ f id) aT).bind (c7 (C.gZ f id))
abbrev kn:=(α:Type)→(α→Option (Exit×ah))→(ah→Option α)→α→Option (Exit×ah)
def fX{α:Type}(g:α→Option (Exit×ah))(rn:ah→Option α):Nat→α→Option (Exit×ah)|0,_=>none|n+1,bB=>(g bB).bind fun x=>match x.1 with| .normal=>(rn x.2).bind (fX g rn n)|_=>some x
/-! A range over a function: each round begins with the slots of the loop's entry, and with what has been yielded. -/
def Gp(t:Nat→U):List (Nat×U)→Nat→U|[]=>t|(p,v)::l=>Gp (ai t p v) l
def GH(S:ah)(ps:List Nat)(y:List U):Option ah:=if ps.length=y.length∧(ps.all fun p=>decide (p<S.n))=true then some ⟨S.n,Gp S.t (ps.zip y),S.h⟩else none
def oV(g:ah→Option (Exit×ah))(rn:ah→Option ah)(ps:List Nat):List (List U)→ah→Option (Exit×ah)|[],S=>some (.normal,S)|y::ys,S=>(GH S ps y).bind fun aT=>(g aT).bind fun x=>(rn x.2).bind fun cr=>match x.1 with| .normal=>oV g rn ps ys cr| .ret=>some (.ret,cr)| .exit i=>some (.exit i,cr)|_=>none
def MN(assign body:Code):Option Nat:=match jV assign with|some i=>some i|none=>jV body
def tF(C:av)(f:FuncId)(assign body:Code):List Nat:=match MN assign body with|some i=>C.live f i|none=>[]
def MM(C:av)(f:FuncId)(assign body:Code):Option (Bool×List Nat):=some (match MN assign body with|some i=>C.shr f i|none=>false,tF C f assign body)
def Gt(C:av)(x:U):Option (List (List U)):=match x with
 | .fn (.func k) [] caps=>if c9 caps then(C.iter k).bind (· caps)else none
 |_=>none
def bL(C:av)(f:FuncId)(call:FuncId→List U→Option (U×List U))(bk:kn):Code→ah→Option (Exit×ah)
 | .skip,S=>some (.normal,S)
 | .label _,S=>some (.normal,S)
 | .exit id,S=>some (.exit id,S)
 | .ret,S=>some (.ret,S)
 | .region id ops draw,S=>((iP (C.jy f id) S).bind fun eD=>(lY C f call id ops draw eD).bind (lU C f id)).map fun S'=>(.normal,S')
 | .seq a b,S=>(bL C f call bk a S).bind fun x=>match x.1 with
  | .normal=>(c7 (fK C f b) x.2).bind (bL C f call bk b)
  |_=>some x
 | .cond c a b,S=>match un true (S.get C c)with
  | .val (.bool t)=>if t then bL C f call bk a S else bL C f call bk b S
  |_=>none
 | .block id c,S=>(bL C f call bk c S).bind fun x=>match(match x.1 with| .exit i=>if i=id then .normal else .exit i|e=>e:Exit)with
  | .normal=>(c7 (C.lT f id) x.2).map fun S'=>(.normal,S')
  |e=>some (e,x.2)
 | .loop c,S=>
  let slots:=match jV c with|some i=>C.live f i|none=>[]
  if(match jV c with|some i=>C.shr f i|none=>false)then
   (norm S slots).bind fun aT=>bk ah (fun S'=>bL C f call bk c S') (fun S'=>norm S' slots) aT
  else(gz S slots).bind fun bB=>bk (List U) (fun bB=>bL C f call bk c (aC S.n slots bB)) (fun S'=>gz S' slots) bB
 | .rangeFunc g ps assign body,S=>(Gt C (un true (S.get C g))).bind fun ys=>(c7 (MM C f assign body) S).bind
   (oV (fun aT=>(bL C f call bk assign aT).bind fun x=>match x.1 with| .normal=>bL C f call bk body x.2|_=>none) (c7 (MM C f assign body)) ps.toList ys)
 |_,_=>none
/-! ## Functions -/
def ri(C:av)(S:ah):ResultVar→Option (U×List Id)| .tmp t=>pk S.h 9 (un true (S.t t))| .cell a ty=>match jl C ty,fL C ty,un true (S.t a)with|some b,some n, .ay cells=>if n≤cells.length then((gN b (cells.take n)).bind (pk S.h 9))else none|some b,some n, .mp id row off=>(match S.h id with|some (some rows)=>(match rows[row]? with|some r=>if off+n≤r.length then((gN b ((r.drop off).take n)).bind (pk S.h 9)).map fun x=>(x.1,id::x.2)else none|none=>none)|_=>none)|_,_,_=>none
def iH(C:av)(S:ah):List ResultVar→Option (List U×List Id)|[]=>some ([],[])|r::l=>(ri C S r).bind fun x=>(iH C S l).map fun y=>(x.1::y.1,x.2++y.2)
def finish(C:av)(fn:Func)(bR:List Nat)(_args:List U)(S:ah):Option (U×List U):=match iH C S fn.results.toList,gR S.h S.t bR with|some (rs,i1),some (outs,i2)=>if cY (i1++i2)then some (match rs with|[r]=>r|_=> .aG rs,outs)else none|_,_=>none
/-! At the end of a call whose objects keep their places. -/
def jR(L:Id→Option (Option Rows))(keep:Id→Bool):U→Option (U×List Id)| .agg cs=>(dm (e5 L keep) cs).map fun x=>(.agg x.1,x.2)|a=>e5 L keep a
def rj(C:av)(S:ah)(p:U→Option (U×List Id)):ResultVar→Option (U×List Id)| .tmp t=>p (un true (S.t t))| .cell a ty=>match jl C ty,fL C ty,un true (S.t a)with|some b,some n, .ay cells=>if n≤cells.length then((gN b (cells.take n)).bind p)else none|some b,some n, .mp id row off=>(match S.h id with|some (some rows)=>(match rows[row]? with|some r=>if off+n≤r.length then((gN b ((r.drop off).take n)).bind p).map fun x=>(x.1,id::x.2)else none|none=>none)|_=>none)|_,_,_=>none
def jn(C:av)(S:ah)(p:U→Option (U×List Id)):List ResultVar→Option (List U×List Id)|[]=>some ([],[])|r::l=>(rj C S p r).bind fun x=>(jn C S p l).map fun y=>(x.1::y.1,x.2++y.2)
def jD:Option (Option Rows)→Bool|some (some _)=>true|_=>false
def iU(L:Id→Option (Option Rows))(keep:Id→Bool):List Id→Option (List U×List Id)|[]=>some ([],[])|k::r=>match L k with|some (some rows)=>(kA L keep rows).bind fun x=>(iU L keep r).map fun y=>(.bf k x.1::y.1,x.2++y.2)|_=>(iU L keep r).map fun y=>(.aK::y.1,y.2)
def lq(ids:List Id)(S:ah):ah:=⟨S.n,S.t,aI S.h (ids.map fun i=>(i,none))⟩
def oX(C:av)(fn:Func)(ks:List Id)(S:ah):Option (U×List U):=
 let al:=ks.filter fun k=>jD (S.h k)
 let keep:Id→Bool:=fun i=>al.contains i
 match jn C S (jR S.h keep) fn.results.toList,iU S.h keep ks with
 |some (rs,i1),some (outs,i2)=>if cY (al++(i1++i2))then some (match rs with|[r]=>r|_=> .aG rs,outs)else none
 |_,_=>none
def gw(C:av)(f:FuncId)(call:FuncId→List U→Option (U×List U))(bk:kn):Code→ah→Option (Exit×ah)| .seq (.region id ops draw) b,S=>if C.AT f id then match ops.toList,draw with|[o0,o1],false=>(match o1.op,o1.guard,o1.dst with| .defer ⟨.value (.tmp d),args,_⟩,none,none=>if args.isEmpty then(jw C f call ops 0 [o0] S).bind fun x=>match x.1.t d with| .fn (.func k) _ _=>if C.kL k then gw C f call bk b x.1 else none|_=>none else none|_,_,_=>none)|_,_=>none else(bL C f call bk (.region id ops draw) S).bind fun x=>(match x.1 with| .normal=>(c7 (fK C f b) x.2).bind (gw C f call bk b)|_=>some x)| .seq a b,S=>(bL C f call bk a S).bind fun x=>(match x.1 with| .normal=>(c7 (fK C f b) x.2).bind (gw C f call bk b)|_=>some x)|c,S=>bL C f call bk c S
def lV(C:av)(f:FuncId):Code→Bool| .seq (.region id _ _) b=>C.AT f id||lV C f b| .seq _ b=>lV C f b|_=>false
def q2:List U→Option (List (Id×Rows))|[]=>some []| .bf i rows::l=>(q2 l).map ((i,rows)::·)|_::_=>none
def tL(n:Nat)(ps:List U)(hl:List (Id×Rows)):ah:=⟨n,fun t=>ps.getD t .aK,gM hl⟩
def xB(C:av)(call:FuncId→List U→Option (U×List U))(bk:kn)(f:FuncId)(fn:Func)(c:Code):List U→Option (U×List U)| .aG obs::ps=>(match q2 obs with|some hl=>if ps.length≤fn.ntmps∧fn.ntmps≤fY then((jI fY (C.gP f fY) (tL fn.ntmps ps hl)).bind (if lV C f c then gw C f call bk c else bL C f call bk c)).bind fun x=>match x.1 with| .normal=>oX C fn (hl.map (·.1)) (lq (C.nT f) x.2)| .ret=>oX C fn (hl.map (·.1)) (lq (C.nT f) x.2)|_=>none else none|none=>none)|_=>none
def nU(C:av)(call:FuncId→List U→Option (U×List U))(bk:kn)(f:FuncId)(args:List U):Option (U×List U):=match C.ext f with|some g=>g args|none=>match C.P.funcs[f]? with|some fn=>(match fn.body with|some c=>if C.fD f then xB C call bk f fn c args else if args.length≤fn.ntmps then(bL C f call bk c (aC fn.ntmps (List.range args.length) args)).bind fun x=>match x.1 with| .normal=>finish C fn (C.bR f) args x.2| .ret=>finish C fn (C.bR f) args x.2|_=>none else none|none=>none)|none=>none
end Go.Ab
