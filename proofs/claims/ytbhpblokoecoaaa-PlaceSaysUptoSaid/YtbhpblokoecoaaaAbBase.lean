import Derived.Deep.Quiet
namespace Go.Ab
open Go
abbrev Id:=List Nat
inductive aa where|val(v:Value)|sl(rows:List (List aa))|au(cells:List aa)|cN|rs(id:Id)(off len:Nat)|mp(id:Id)(row off:Nat)|fn(f:Fn)(first caps:List aa)|agg(cells:List aa)|b9(vs:List aa)|own(rows:List (List aa))(len:Nat)|aH(cells:List aa)|dj(g:Bool)(x:aa)|nn|mr(id:Id)|dW(rows:List (List aa))|im(rows:List (List aa))|bX deriving Inhabited
abbrev Rows:=List (List aa)
structure an where
  n : Nat
  t : Nat → aa
  h : Id → Option (Option Rows)
structure bx where
  ec : List (Nat × aa)
  rd : List Id
  wr : List (Id × Option Rows)
def aE{α β:Type}[DecidableEq α](f:α→β)(k:α)(v:β):α→β:=fun j=>if j=k then v else f j
def dO(t:Nat→aa):List (Nat×aa)→Nat→aa|[]=>t|(i,v)::l=>aE (dO t l) i v
def bL(h:Id→Option (Option Rows)):List (Id×Option Rows)→Id→Option (Option Rows)|[]=>h|(i,r)::l=>aE (bL h l) i (some r)
def an.app(s:an)(e:bx):an:={n:=s.n,t:=dO s.t e.ec,h:=bL s.h e.wr}
def er:Value→Bool| .bool _| .int _ _| .float _ _| .string _| .pointer _| .nilFunc| .nilIface| .map none| .iface _ (.int _ _)| .iface _ (.string _)| .iface _ (.bool _)=>true|_=>false
def dz{α:Type}(P:Program):Sem α→Option α| .pure a=>some a| .program k=>dz P (k P)|_=>none
structure aV where
  P : Program
  cU : Nat → Option (List aa)
  ext : FuncId → Option (List aa → Option (aa × List aa))
  cR : FuncId → List Nat
  xh : FuncId → List Nat := fun _ => []
  shr : FuncId → Nat → Bool := fun _ _ => false
  eJ : FuncId → List Nat
  live : FuncId → Nat → List Nat
  gU : FuncId → Nat → List (Nat × Nat)
  nB : FuncId → Nat → Option (Bool × List Nat) := fun _ _ => none
  oB : FuncId → Nat → Option (Bool × List Nat) := fun _ _ => none
  H7 : FuncId → Nat → Option (Bool × List Nat) := fun _ _ => none
  path : FuncId → Option (Nat × Nat) := fun _ => none
  tK : FuncId → Nat → List Nat := fun _ _ => []
  iter : FuncId → Option (List aa → Option (List (List aa))) := fun _ => none
  look : FuncId → Bool := fun _ => false
  qT : FuncId → Nat → List Nat := fun _ _ => []
def an.get(C:aV)(s:an):Operand→aa| .tmp t=>s.t t| .const v=>if er v then .val v else(match v with| .slice none 0 0=> .cN|_=> .bX)| .global g=>(match C.cU g with|some cs=> .au cs|none=> .bX)| .func f=> .fn (.func f) [] []
def un(g:Bool):aa→aa| .dj g' x=>if !g||g' then x else .bX|x=>x
def jb:List aa→Option (List Value)|[]=>some []| .val v::l=>(jb l).map (v::·)|_::_=>none
def lG:aa→Option Value| .val v=>some v| .agg cs=>(jb cs).map fun vs=> .agg ⟨vs⟩|_=>none
def KA(v:Value):Option aa:=if er v then some (.val v)else match v with| .slice none 0 0=>some .cN|_=>none
def zU:List Value→Option (List aa)|[]=>some []|v::l=>match KA v with|some a=>(zU l).map (a::·)|none=>none
def yl(C:aV)(t:TypeId):Option (List aa):=match(C.P.info? t).bind (·.zero)with|some v=>zU v.cells.toList|none=>none
def Kz(v:Value):Option aa:=if er v then some (.val v)else match v with| .slice none 0 0=>some (.own [] 0)|_=>none
def xm:List Value→Option (List aa)|[]=>some []|v::l=>match Kz v with|some a=>(xm l).map (a::·)|none=>none
def ym(C:aV)(t:TypeId):Option (List aa):=match(C.P.info? t).bind (·.zero)with|some v=>xm v.cells.toList|none=>none
def gH(C:aV)(t:TypeId):Option Nat:=(C.P.info? t).map (·.size)
def kC(C:aV)(t:TypeId):Option Bool:=(C.P.underlying t).map fun| .struct _=>true| .array _ _=>true|_=>false
def nz:aa→aa| .cN=> .sl []|x=>x
def jJ(l:List aa):List aa:=l.map nz
def aa.cell:aa→Bool| .val _| .sl _| .au _| .cN| .rs _ _ _| .mp _ _ _| .fn _ _ _| .nn| .mr _| .im _=>true|_=>false
def nx(F3:Bool):aa→Option (List aa)| .agg cs=>if F3&&cs.all aa.cell then some cs else none|x=>if !F3&&x.cell then some [x]else none
def kG(F3:Bool)(cs:List aa):Option aa:=if F3 then some (.agg cs)else match cs with|[c]=>some c|_=>none
def bT(p:Id):Nat→List aa→List aa×List (Id×Option Rows)|_,[]=>([],[])|j,c::cs=>match c with| .own rows len=>(.rs (j::p) 0 len::(bT p (j+1) cs).1,(j::p,some rows)::(bT p (j+1) cs).2)| .aH cells=>(.mp (j::p) 0 0::(bT p (j+1) cs).1,(j::p,some [cells])::(bT p (j+1) cs).2)| .dW rows=>(.mr (j::p)::(bT p (j+1) cs).1,(j::p,some rows)::(bT p (j+1) cs).2)| .agg _=>(.bX::(bT p (j+1) cs).1,(bT p (j+1) cs).2)| .b9 _=>(.bX::(bT p (j+1) cs).1,(bT p (j+1) cs).2)|c=>(c::(bT p (j+1) cs).1,(bT p (j+1) cs).2)
def eT(p:Id):Nat→List aa→List aa×List (Id×Option Rows)|_,[]=>([],[])|j,c::cs=>match c with| .own rows len=>(.rs (j::p) 0 len::(eT p (j+1) cs).1,(j::p,some rows)::(eT p (j+1) cs).2)| .aH cells=>(.mp (j::p) 0 0::(eT p (j+1) cs).1,(j::p,some [cells])::(eT p (j+1) cs).2)| .dW rows=>(.mr (j::p)::(eT p (j+1) cs).1,(j::p,some rows)::(eT p (j+1) cs).2)| .agg l=>(.agg (bT (j::p) 0 l).1::(eT p (j+1) cs).1,(bT (j::p) 0 l).2++(eT p (j+1) cs).2)| .b9 _=>(.bX::(eT p (j+1) cs).1,(eT p (j+1) cs).2)|c=>(c::(eT p (j+1) cs).1,(eT p (j+1) cs).2)
def imp(p:Id):aa→aa×List (Id×Option Rows)| .own rows len=>(.rs p 0 len,[(p,some rows)])| .aH cells=>(.mp p 0 0,(p,some [(bT p 0 cells).1])::(bT p 0 cells).2)| .dW rows=>(.mr p,[(p,some rows)])| .agg l=>(.agg (bT p 0 l).1,(bT p 0 l).2)| .b9 l=>(.b9 (eT p 0 l).1,(eT p 0 l).2)|x=>(x,[])
mutual def flat:aa→Bool| .rs _ _ _| .mp _ _ _| .dj _ _| .cN| .mr _=>false| .own rows _=>eN rows| .aH cells=>ey cells| .agg cells=>ey cells| .b9 vs=>ey vs| .fn _ first caps=>ey first&&ey caps|_=>true def ey:List aa→Bool|[]=>true|c::cs=>flat c&&ey cs def eN:List (List aa)→Bool|[]=>true|r::rs=>ey r&&eN rs end
mutual def e5:aa→Bool| .rs _ _ _| .mp _ _ _| .dj _ _| .cN| .own _ _| .aH _| .mr _| .dW _| .bX=>false| .agg cells=>dU cells| .b9 vs=>dU vs| .fn _ first caps=>dU first&&dU caps|_=>true def dU:List aa→Bool|[]=>true|c::cs=>e5 c&&dU cs end
def g5(rows:Rows):Bool:=rows.all dU
def eD(p:aa→Option (aa×List Id)):List aa→Option (List aa×List Id)|[]=>some ([],[])|c::cs=>(p c).bind fun x=>(eD p cs).map fun y=>(x.1::y.1,x.2++y.2)
def ek(p:List aa→Option (List aa×List Id)):Rows→Option (Rows×List Id)|[]=>some ([],[])|r::rs=>(p r).bind fun x=>(ek p rs).map fun y=>(x.1::y.1,x.2++y.2)
def fA(p:aa→Option (aa×List Id))(cs:List aa):Option (List aa×List Id):=if ey cs then some (cs,[])else eD p cs
def iW(p:aa→Option (aa×List Id))(rs:Rows):Option (Rows×List Id):=if eN rs then some (rs,[])else ek (fA p) rs
def pk(L:Id→Option (Option Rows)):Nat→aa→Option (aa×List Id)|0,_=>none|n+1,a=>match a with| .rs id off len=>(match L id with|some (some rs)=>if off=0∧len≤rs.length then(iW (pk L n) rs).map fun x=>(.own x.1 len,id::x.2)else none|_=>none)| .mp id row off=>(match L id with|some (some [cs])=>if row=0∧off=0 then(fA (pk L n) cs).map fun x=>(.aH x.1,id::x.2)else none|_=>none)| .mr id=>(match L id with|some (some rs)=>some (.dW rs,[id])|_=>none)| .cN=>some (.own [] 0,[])| .agg cs=>(fA (pk L n) cs).map fun x=>(.agg x.1,x.2)| .b9 cs=>(fA (pk L n) cs).map fun x=>(.b9 x.1,x.2)| .fn f a b=>if dU a&&dU b then some (.fn f a b,[])else none| .dj _ _=>some (.bX,[])| .own rs len=>if eN rs then some (.own rs len,[])else none| .aH cs=>if ey cs then some (.aH cs,[])else none|a=>some (a,[])
def fz(p:aa→Option (aa×List Id))(cs:List aa):Option (List aa×List Id):=if dU cs then some (cs,[])else eD p cs
def kf(p:aa→Option (aa×List Id))(rs:Rows):Option (Rows×List Id):=if g5 rs then some (rs,[])else ek (fz p) rs
def bQ(L:Id→Option (Option Rows)):Nat→aa→Option (aa×List Id)|0,_=>none|n+1,a=>match a with| .rs id off len=>(match L id with|some (some rs)=>if off+len≤rs.length then(kf (bQ L n) ((rs.drop off).take len)).map fun x=>(.sl x.1,id::x.2)else none|_=>none)| .mp id row off=>(match L id with|some (some rs)=>(match rs[row]? with|some r=>if off≤r.length then(fz (bQ L n) (r.drop off)).map fun x=>(.au x.1,id::x.2)else none|none=>none)|_=>none)| .mr id=>(match L id with|some (some rs)=>some (.im rs,[id])|_=>none)| .dW rs=>some (.im rs,[])| .own rs len=>(kf (bQ L n) (rs.take len)).map fun x=>(.sl x.1,x.2)| .aH cs=>(fz (bQ L n) cs).map fun x=>(.au x.1,x.2)| .cN=>some (.sl [],[])| .agg cs=>(fz (bQ L n) cs).map fun x=>(.agg x.1,x.2)| .b9 cs=>(fz (bQ L n) cs).map fun x=>(.b9 x.1,x.2)| .fn f a b=>(fz (bQ L n) a).bind fun x=>(fz (bQ L n) b).map fun y=>(.fn f x.1 y.1,x.2++y.2)| .dj _ _=>some (.bX,[])|a=>some (a,[])
def qH(L:Id→Option (Option Rows))(as:List aa):Option (List aa×List Id):=eD (bQ L 9) as
/-! ## One operation -/
def put(o:Oper)(v:aa)(rd:List Id)(wr:List (Id×Option Rows)):bx:={ec:=match o.dst with|some d=>[(d,v)]|none=>[],rd,wr}
def fresh(L:Id→Option (Option Rows))(l:List (Id×Option Rows)):Bool:=l.all fun x=>(L x.1).isNone
def Dv(C:aV):List Field→Option (List (Nat×Nat×Bool))|[]=>some []|f::l=>match gH C f.type,kC C f.type,Dv C l with|some n,some b,some r=>some ((f.offset,n,b)::r)|_,_,_=>none
def KM(C:aV)(t:TypeId):Option (List (Nat×Nat×Bool)):=match C.P.underlying t with|some (.struct fields)=>Dv C fields.toList|_=>none
def vY(place:List (Nat×Nat×Bool))(cells:List aa):List (Nat×aa)→Option (List aa)|[]=>some cells|(i,v)::rest=>match place[i]? with|none=>none|some (off,n,b)=>match nx b v with|none=>none|some cs=>if cs.length=n∧off+n≤cells.length then vY place (cells.take off++cs++cells.drop (off+n)) rest else none
def qQ(n:Nat)(b:Bool)(rows:Rows):List (Nat×aa)→Option Rows|[]=>some rows|(i,v)::rest=>match nx b v with|none=>none|some cs=>if cs.length=n∧i<rows.length then qQ n b (rows.set i cs) rest else none
def eF:aa→Option Int| .val (.int _ n)=>some n|_=>none
def ug(n:Int):aa:= .val (.int .i64 n)
def mW:Nat:=4294967296
def rowsOf(L:Id→Option (Option Rows)):aa→Option (Rows×List Id)| .sl rows=>some (rows,[])| .cN=>some ([],[])| .rs id off len=>(match L id with|some (some rs)=>if off+len≤rs.length then some ((rs.drop off).take len,[id])else none|_=>none)|_=>none
def o4(rows:Rows):Bool:=rows.all (·.all aa.cell)
def B5(a b:List Id):Bool:=a.all fun x=> !b.contains x
def fN:List Id→Bool|[]=>true|x::l=> !l.contains x&&fN l
mutual def mine:aa→Bool| .val _| .bX| .cN| .nn| .dW _=>true| .own rows _=>Gf rows| .aH cells=>lq cells| .agg cells=>lq cells| .b9 vs=>lq vs|_=>false def lq:List aa→Bool|[]=>true|c::cs=>mine c&&lq cs def Gf:List (List aa)→Bool|[]=>true|r::rs=>lq r&&Gf rs end
mutual def eE:aa→aa| .own rows len=> .sl ((gr rows).take len)| .aH cells=> .au (iw cells)| .dW rows=> .im rows| .agg cells=> .agg (iw cells)| .b9 vs=> .b9 (iw vs)|x=>x def iw:List aa→List aa|[]=>[]|c::cs=>eE c::iw cs def gr:List (List aa)→List (List aa)|[]=>[]|r::rs=>iw r::gr rs end
def fe(C:aV)(f:FuncId)(d:Option Nat):Bool:=match d with|some d=>(C.eJ f).contains d|none=>false
def zV:List aa→Bool|[.val _]=>true|[.au _]=>true|_=>false
def uP(S:an)(o:Oper)(as:List aa):Option bx:=match as with|[.val (.int .i64 i), .mp id 0 0, .au cells]=>(match cells[4]?,S.h id with|some (aa.sl ks),some (some [[.rs ga 0 n]])=>(match S.h ga,ks[i.toNat]? with|some (some rows),some [.val (.int .i64 c)]=>(match rows[c.toNat]? with|some [x]=>if 0≤i∧0≤c∧n=rows.length∧rows.all zV=true∧e5 x=true∧o.dst.isSome=true then some (put o x [id,ga] [])else none|_=>none)|_,_=>none)|_,_=>none)|_=>none
def nw(C:aV)(f:FuncId)(call:FuncId→List aa→Option (aa×List aa))(S:an)(o:Oper)(fv:aa)(args:List aa):Option bx:=match fv with| .fn (.func k) first caps=>if C.look k then uP S o (first++args++caps)else(match qH S.h (first++args++caps),o.dst with|some (as,seen),some d=>(match call k as with|some (r,[])=>if !seen.isEmpty&& !mine r then none else if fresh S.h (imp [d] (if fe C f o.dst then eE r else r)).2 then some (put o (imp [d] (if fe C f o.dst then eE r else r)).1 seen (imp [d] (if fe C f o.dst then eE r else r)).2)else none|_=>none)|_,_=>none)|_=>none
def rS(C:aV):Operand→Bool| .func k=> !(C.xh k).isEmpty|_=>false
def ja(L:Id→Option (Option Rows)):List Nat→List aa→Option (List aa×List Id×List Id×List Id)|_,[]=>some ([],[],[],[])|ms,a::l=>(ja L ms.tail l).bind fun y=>match ms.headD 0 with|1=>(pk L 9 a).map fun x=>(x.1::y.1,y.2.1,x.2++y.2.2.1,y.2.2.2)|2=>(pk L 9 a).map fun x=>(eE x.1::y.1,y.2.1,y.2.2.1,x.2++y.2.2.2)|_=>(bQ L 9 a).map fun x=>(x.1::y.1,x.2++y.2.1,y.2.2.1,y.2.2.2)
def jw(L:Id→Option (Option Rows)):aa→aa→Option (List (Id×Option Rows))| .mp id 0 0, .aH cs=>(match L id with|some (some [old])=>if cs.length=old.length then some [(id,some [cs])]else none|_=>none)| .rs id 0 n, .own rows len=>(match L id with|some (some (o1::os))=>if len=n∧rows.length=n∧n=(o1::os).length∧rows.all (·.length==o1.length)then some [(id,some rows)]else none|some (some [])=>if len=0∧rows.length=0∧n=0 then some [(id,some [])]else none|_=>none)| .mr id, .dW rows=>(match L id with|some (some _)=>some [(id,some rows)]|_=>none)| .rs _ _ _,_=>none| .mp _ _ _,_=>none| .mr _,_=>none| .agg _,_=>none|_,_=>some []
def lB(L:Id→Option (Option Rows)):List aa→List aa→Option (List (Id×Option Rows))|[],[]=>some []|a::as,b::bs=>(match jw L a b,lB L as bs with|some x,some y=>some (x++y)|_,_=>none)|_,_=>none
def u9(L:Id→Option (Option Rows)):aa→aa→Option (List (Id×Option Rows))| .agg as, .agg bs=>lB L as bs|a,b=>jw L a b
def iE(L:Id→Option (Option Rows))(args:List aa):List Nat→List aa→Option (List (Id×Option Rows))|[],[]=>some []|j::l,b::bs=>(match args[j]?,iE L args l bs with|some a,some y=>(match u9 L a b with|some x=>some (x++y)|none=>none)|_,_=>none)|_,_=>none
def qJ(C:aV)(f:FuncId)(call:FuncId→List aa→Option (aa×List aa))(S:an)(o:Oper)(k:FuncId)(args:List aa):Option bx:=match ja S.h (C.xh k) args,o.dst with|some (as,seen,tk,dn),some d=>(match call k as with|some (r,outs)=>(match iE S.h args (C.cR k) outs with|some back=>if fN (tk++dn)&&B5 seen (tk++dn)&&(seen.isEmpty||mine r&&outs.all mine)&&fN (back.map (·.1))&&(back.all fun x=>tk.contains x.1)&&fresh S.h (imp [d] (if fe C f o.dst then eE r else r)).2 then some (put o (imp [d] (if fe C f o.dst then eE r else r)).1 seen ((imp [d] (if fe C f o.dst then eE r else r)).2++(back++(tk++dn).map fun i=>(i,none))))else none|none=>none)|none=>none)|_,_=>none
def ED(i:TypeInfo):Bool:=match i.zero with|some z=>z.cells.size==i.size|none=>false
def kU(S:an)(o:Oper)(d m:Nat)(x:aa)(xs ys:Rows)(i1 i2:List Id):Option bx:=match x with| .rs id off _=>(match S.h id with|some (some rows)=>if rows.all (·.length==m)&&decide (off=0)&&(!(xs++ys).isEmpty||rows.isEmpty)then some (put o (.rs [d] 0 (xs.length+ys.length)) (i1++i2) [(id,none),([d],some (xs++ys))])else none|_=>none)| .cN=>some (put o (.rs [d] 0 (xs.length+ys.length)) (i1++i2) [([d],some (xs++ys))])|_=>none
def yI(C:aV)(S:an)(o:Oper)(t:TypeId)(x y:aa):Option bx:=match C.P.underlying t,o.dst with|some (.slice e),some d=>(match C.P.info? e,rowsOf S.h x,rowsOf S.h y with|some i,some (xs,i1),some (ys,i2)=>if ys.all (·.length==i.size)&&decide (0<i.size)&&decide (i.bytes≤4096)&&ED i&&decide (xs.length+ys.length≤mW)&&o4 ys&&(S.h [d]).isNone then kU S o d i.size x xs ys i1 i2 else none|_,_,_=>none)|_,_=>none
def yJ(C:aV)(S:an)(o:Oper)(t:TypeId)(x y:aa):Option bx:=match C.P.underlying t,o.dst,eF y with|some (.slice e),some d,some n=>(match C.P.info? e,ym C e,rowsOf S.h x with|some i,some z,some (xs,i1)=>if decide (0≤n∧n≤4294967296)&&decide (z.length=i.size)&&decide (0<i.size)&&decide (i.bytes≤4096)&&ED i&&decide (xs.length+n.toNat≤mW)&&z.all aa.cell&&(S.h [d]).isNone then kU S o d i.size x xs (List.replicate n.toNat z) i1 []else none|_,_,_=>none)|_,_,_=>none
def Df:aa→Option Nat| .sl rows=>some rows.length| .rs _ _ len=>some len| .cN=>some 0|_=>none
def De:TypeDesc→aa→Option Nat| .string, .val (.string s)=>some s.size| .slice _,x=>Df x|_,_=>none
def ret(o:Oper)(v:aa):Option bx:=some (put o v [] [])
def j5(o:Oper):Option Value→Option bx|some v=>if er v then ret o (.val v)else none|none=>none
def uf(o:Oper)(c a b:aa):Option bx:=match c with| .val (.bool h)=>(match a,b with| .val (.bool x), .val (.bool y)=>ret o (.val (.bool (if h then x else y)))|hY,rZ=>ret o (if h then hY else rZ))|_=>none
def Ls(l:List Nat):Nat→List aa→List aa|_,[]=>[]|j,c::cs=>(match c with| .own [] 0=>if l.contains j then .sl []else c| .cN=>if l.contains j then .sl []else c|c=>c)::Ls l (j+1) cs
def tL(l:List Nat)(cs:List aa):List aa:=match l with|[]=>cs|l=>Ls l 0 cs
def EE(C:aV)(f:FuncId)(o:Oper)(cs:List aa):List aa:=match o.dst with|some d=>tL (C.tK f d) cs|none=>cs
def lP:aa→Bool| .val (.bool h)=>h|_=>false
def pN(C:aV)(f:FuncId)(S:an)(o:Oper)(t:TypeId):Option bx:=match ym C t,o.dst with|some cs,some d=>if(S.h [d]).isNone then some (put o (.mp [d] 0 0) [] [([d],some [tL (C.tK f d) cs])])else none|_,_=>none
def pO(C:aV)(f:FuncId)(S:an)(o:Oper)(t:TypeId)(x:aa):Option bx:=match kC C t,o.dst with|some b,some d=>(match nx b x with|some cs=>if fe C f o.dst&&dU (jJ cs)then ret o (.au (jJ cs))else if(S.h [d]).isNone then some (put o (.mp [d] 0 0) [] [([d],some [cs])])else none|none=>none)|_,_=>none
def ud(C:aV)(f:FuncId)(o:Oper)(t:TypeId)(parts:List (Nat×aa)):Option bx:=match yl C t,KM C t with|some z,some pl=>(match vY pl (EE C f o z) parts with|some cs=>ret o (.agg cs)|none=>none)|_,_=>none
def sv(C:aV)(f:FuncId)(S:an)(o:Oper)(t:TypeId)(len:Nat)(parts:List (Nat×aa)):Option bx:=match C.P.underlying t,o.dst with|some (.slice e),some d=>(match yl C e,kC C e,gH C e with|some z,some b,some n=>if decide (0<n)&&decide (n=z.length)&&decide (len*n≤1000)then match qQ n b (List.replicate len z) parts with|some rows=>if fe C f o.dst&&g5 (rows.map jJ)then ret o (.sl (rows.map jJ))else if(S.h [d]).isNone then some (put o (.rs [d] 0 len) [] [([d],some rows)])else none|none=>none else none|_,_,_=>none)|_,_=>none
def yN(C:aV)(t:TypeId)(len:Nat)(parts:List (Nat×aa)):Option Rows:=match C.P.underlying t with|some (.slice e)=>(match yl C e,kC C e,gH C e with|some z,some b,some n=>if decide (0<n)&&decide (n=z.length)&&decide (len*n≤1000)then qQ n b (List.replicate len z) parts else none|_,_,_=>none)|_=>none
def E6(C:aV)(f:FuncId)(o:Oper)(t:TypeId)(len:Nat)(parts:List (Nat×aa)):Bool:=fe C f o.dst&&(match yN C t len parts with|some rows=> !g5 (rows.map jJ)|none=>false)
def yZ(C:aV)(S:an)(o:Oper)(t:TypeId)(len:Nat)(parts:List (Nat×aa)):Option bx:=match yN C t len parts,o.dst with|some rows,some _=>(match iW (pk S.h 8) rows with|some (bZ,ids)=>if fN ids then some (put o (.sl (gr bZ)) ids (ids.map fun i=>(i,none)))else none|none=>none)|_,_=>none
def nF(C:aV)(f:FuncId)(S:an)(o:Oper)(t:TypeId)(len:Nat)(parts:List (Nat×aa)):Option bx:=if E6 C f o t len parts then yZ C S o t len parts else sv C f S o t len parts
def pL(o:Oper):Id:=match o.dst with|some d=>[d]|none=>[]
def lT(C:aV)(S:an)(o:Oper)(t:TypeId)(a:aa):Option bx:=match kC C t,gH C t with|some b,some n=>(match a with| .au cells=>if n≤cells.length then(kG b (cells.take n)).map fun v=>put o v [] []else none| .mp id row off=>(match S.h id with|some (some rows)=>(rows[row]?).bind fun r=>if off+n≤r.length then if(bT (pL o) 0 ((r.drop off).take n)).2.isEmpty then(kG b (bT (pL o) 0 ((r.drop off).take n)).1).map fun v=>put o v [id] []else if fresh S.h (bT (pL o) 0 ((r.drop off).take n)).2 then(kG b (bT (pL o) 0 ((r.drop off).take n)).1).map fun v=>put o v [id] ((id,some (rows.set row (r.take off++(bT (pL o) 0 ((r.drop off).take n)).1++r.drop (off+n))))::(bT (pL o) 0 ((r.drop off).take n)).2)else none else none|_=>none)|_=>none)|_,_=>none
def v7(C:aV)(f:FuncId)(a:Operand):Option Nat:=match a with| .tmp iZ=>if(C.eJ f).contains iZ then some iZ else none|_=>none
def nJ(C:aV)(f:FuncId)(S:an)(g:Bool)(o:Oper)(t:TypeId)(ao:Operand)(a x:aa):Option bx:=match kC C t,gH C t with|some b,some n=>(match a,nx b x with| .mp id row off,some cs=>if cs.length≠n then none else(match S.h id with|some (some rows)=>(rows[row]?).bind fun r=>if off+n≤r.length then match v7 C f ao with|some iZ=>if decide (off=0)&&decide (n=r.length)&&decide (rows.length=1)&&decide (row=0)&&dU (jJ cs)&&g&&o.dst.isNone then some {ec:=[(iZ, .au (jJ cs))],rd:=[id],wr:=[(id,none)]}else none|none=>if o.dst.isNone then some (put o .bX [id] [(id,some (rows.set row (r.take off++cs++r.drop (off+n))))])else none else none|_=>none)|_,_=>none)|_,_=>none
def y4(o:Oper):aa→Option bx| .au cs=>ret o (.au cs)| .mp id row off=>ret o (.mp id row off)| .fn (.func k) a b=>ret o (.fn (.func k) a b)|_=>none
def eo(P:Program)(op:BinOp)(t:TypeId)(x y:Operand)(a b:Value):Option Value:=dz P (do eqGuard op t x y a b;binOp op t a b)
def Bm(P:Program)(op:UnOp)(a:Value):Option Value:=dz P (Op.unary op a)
def Fe(P:Program)(src dst:TypeId)(a:Value):Option Value:=dz P (convert src dst a)
def Ge(P:Program)(ts:Array TypeId)(t:TypeId)(vs:List Value):Option Value:=dz P (Builtin.max_ ts t ⟨vs⟩)
def abQ(P:Program)(ts:Array TypeId)(t:TypeId)(vs:List Value):Option Value:=dz P (Builtin.min_ ts t ⟨vs⟩)
def P5(op:BinOp)(a b:aa):Option Bool:=match op,a,b with| .eql, .nn, .val .nilIface=>some false| .eql, .val .nilIface, .nn=>some false| .neq, .nn, .val .nilIface=>some true| .neq, .val .nilIface, .nn=>some true|_,_,_=>none
def GI(op:BinOp)(a b:aa):Option Bool:=match op,a,b with| .eql, .au _, .val (.pointer none)=>some false| .neq, .au _, .val (.pointer none)=>some true|_,_,_=>none
def nE(C:aV)(o:Oper)(op:BinOp)(t:TypeId)(x y:Operand)(a b:aa):Option bx:=match lG a,lG b with|some a,some b=>j5 o (eo C.P op t x y a b)|_,_=>match C.P.underlying t,P5 op a b with|some (.interface _),some r=>ret o (.val (.bool r))|some (.pointer _),_=>(match GI op a b with|some r=>ret o (.val (.bool r))|none=>none)|_,_=>none
def Fj(C:aV)(o:Oper)(t:TypeId)(x:aa):Option bx:=match C.P.underlying t with|some (.interface _)=>none|some _=>(match x with| .val v=>if er (.iface t v)then ret o (.val (.iface t v))else ret o .nn|_=>ret o .nn)|none=>none
def vX(C:aV)(o:Oper)(op:UnOp):aa→Option bx| .val a=>j5 o (Bm C.P op a)|_=>none
def B9(C:aV)(o:Oper)(src dst:TypeId):aa→Option bx| .val a=>j5 o (Fe C.P src dst a)|_=>none
def yO(C:aV)(src dst:TypeId):Bool:=match C.P.underlying src,C.P.underlying dst with|some _,some (.slice e)=>(match C.P.underlying e with|some (.int .u8)=>true|_=>false)|_,_=>false
def E7(s:ByteArray):Rows:=s.data.toList.map fun b=>[.val (.int .u8 b.toNat)]
def Ii(o:Oper):aa→Option bx| .val (.string s)=>ret o (.sl (E7 s))|_=>none
def vV(C:aV)(o:Oper)(src dst:TypeId)(x:aa):Option bx:=if yO C src dst then Ii o x else B9 C o src dst x
def sw(C:aV)(S:an)(o:Oper)(t:TypeId)(l c:aa):Option bx:=match C.P.underlying t,o.dst,eF l,eF c with|some (.slice e),some d,some l,some c=>(match ym C e,C.P.info? e with|some z,some i=>if decide (0<z.length)&&decide (i.size=z.length)&&decide (i.bytes≤4096)&&decide (0≤l∧l≤c∧c≤4294967296∧(0<l∨c=0))&&(S.h [d]).isNone then some (put o (.rs [d] 0 l.toNat) [] [([d],some (List.replicate l.toNat z))])else none|_,_=>none)|_,_,_,_=>none
def bounds(lo hi:Option (Option Int))(len:Nat):Option (Nat×Nat):=match(match lo with|none=>some 0|some l=>l),(match hi with|none=>some (len:Int)|some h=>h)with|some l,some h=>if 0≤l∧l≤h∧h≤len then some (l.toNat,h.toNat)else none|_,_=>none
def pS(C:aV)(S:an)(o:Oper)(t:TypeId)(x:aa)(lo hi:Option (Option Int)):Option bx:=match C.P.underlying t with|some (.slice e)=>(match x,gH C e with| .sl rows,some sz=>(bounds lo hi rows.length).bind fun b=>if 0<sz∧rows.all (·.length==sz)then ret o (.sl ((rows.take b.2).drop b.1))else none| .rs id off len,some sz=>(match S.h id with|some (some rows)=>(bounds lo hi len).bind fun b=>if off+len≤rows.length∧0<sz∧rows.all (·.length==sz)then some (put o (.rs id (off+b.1) (b.2-b.1)) [id] [])else none|_=>none)|_,_=>none)|some .string=>(match x with| .val (.string s)=>(bounds lo hi s.size).bind fun b=>ret o (.val (.string (s.extract b.1 b.2)))|_=>none)|_=>none
def Ca(C:aV)(s:TypeId)(i:Nat):Option (Nat×Nat×Bool):=match C.P.underlying s with|some (.struct fields)=>(match fields[i]? with|some cX=>(match gH C cX.type,kC C cX.type with|some n,some b=>some (cX.offset,n,b)|_,_=>none)|none=>none)|_=>none
def qN(C:aV)(f:FuncId)(o:Oper)(s:TypeId)(i:Nat)(x:aa):Option bx:=match Ca C s i with|some (off,n,_)=>(match x with| .au cells=>if 0<n∧off≤cells.length then(if fe C f o.dst then(if off+n≤cells.length then ret o (.au ((cells.drop off).take n))else none)else ret o (.au (cells.drop off)))else none| .mp id row off'=>if 0<n then ret o (.mp id row (off'+off))else none|_=>none)|none=>none
def Fh(C:aV)(o:Oper)(s:TypeId)(i:Nat)(x:aa):Option bx:=match Ca C s i with|some (off,n,b)=>(match x with| .agg cells=>if off+n≤cells.length then(kG b ((cells.drop off).take n)).map fun v=>put o v [] []else none|_=>none)|none=>none
def nG(C:aV)(S:an)(o:Oper)(t:TypeId)(x:aa)(i:Option Int):Option bx:=match C.P.underlying t,i with|some (.slice e),some i=>(match gH C e,x with|some n, .sl rows=>if 0≤i then(rows[i.toNat]?).bind fun r=>if r.length=n∧0<n then ret o (.au r)else none else none|some n, .rs id off len=>if 0≤i∧i<len then match S.h id with|some (some rows)=>(rows[off+i.toNat]?).bind fun r=>if r.length=n then some (put o (.mp id (off+i.toNat) 0) [id] [])else none|_=>none else none|_,_=>none)|some (.array len e),some i=>(match gH C e,x with|some n, .au cells=>if 0≤i∧i<len∧i.toNat*n≤cells.length then ret o (.au (cells.drop (i.toNat*n)))else none|some n, .mp id row off=>if 0≤i∧i<len then ret o (.mp id row (off+i.toNat*n))else none|_,_=>none)|_,_=>none
def y3(C:aV)(o:Oper)(t:TypeId)(x:aa)(i:Option Int):Option bx:=match C.P.underlying t,i,x with|some .string,some i, .val (.string s)=>if 0≤i then(s[i.toNat]?).bind fun b=>ret o (.val (.int .u8 b.toNat))else none|some (.array len e),some i, .agg cells=>(match gH C e,kC C e with|some n,some b=>if 0≤i∧i<len∧(i.toNat+1)*n≤cells.length then(kG b ((cells.drop (i.toNat*n)).take n)).map fun v=>put o v [] []else none|_,_=>none)|_,_,_=>none
def y2(o:Oper)(x:aa)(i:Nat):Option bx:=match x with| .b9 vs=>(match vs[i]? with|some v=>ret o v|none=>none)|_=>none
def qO(C:aV)(o:Oper)(ts:Array TypeId)(xs:List aa):Option bx:=match xs with|[x]=>(match(ts[0]?).bind C.P.underlying with|some d=>(match De d x with|some n=>ret o (ug n)|none=>none)|none=>none)|_=>none
def pT(C:aV)(f:FuncId)(o:Oper)(e:bx):Option bx:=if fe C f o.dst then match o.dst,e.wr with|some d,[(id,none),(d',some rows)]=>if d'=[d]∧g5 rows=true then some (put o (.sl rows) e.rd [(id,none),([d],none)])else none|some d,[(d',some rows)]=>if d'=[d]∧g5 rows=true then some (put o (.sl rows) e.rd [([d],none)])else none|_,_=>none else some e
def kZ(C:aV)(S:an)(o:Oper)(ts:Array TypeId)(xs:List aa):Option bx:=match xs,ts[0]?,(ts[1]?).bind C.P.underlying with|[x,y],some t,some (.slice _)=>yI C S o t x y|[x,y],some t,some (.int _)=>yJ C S o t x y|_,_,_=>none
def pathOf(C:aV):Operand→Option (Nat×Nat)| .func k=>C.path k|_=>none
def pP(S:an)(o:Oper)(p:Nat×Nat):List aa→Option bx|[.mp id row off]=>(match S.h id with|some (some rows)=>(match(rows[row]?).bind fun r=>r[off+p.1]? with|some (.rs ga off2 len)=>(match S.h ga with|some (some fJ)=>if decide (0<len)&&decide (len≤mW)&&decide (off2+len≤fJ.length)&&fJ.all (·.length==p.2)then some (put o (.mp ga (off2+(len-1)) 0) [id,ga] [])else none|_=>none)|_=>none)|_=>none)|[.au cells]=>(match cells[p.1]? with|some (.sl rows)=>if decide (rows.length≤mW)&&rows.all (·.length==p.2)then(rows[rows.length-1]?).map fun r=>put o (.au r) [] []else none|_=>none)|_=>none
def Gy:List aa→Bool|[.val _]=>true|_=>false
def vW(C:aV)(S:an)(o:Oper)(ts:Array TypeId)(xs:List aa):Option bx:=match xs,(ts[0]?).bind C.P.underlying with|[x,y],some (.slice e)=>(match gH C e,x,rowsOf S.h y with|some 1, .rs id off len,some (ys,i2)=>(match S.h id with|some (some rows)=>if ys.all Gy&&rows.all (·.length==1)&&decide (off+len≤rows.length)then some (put o (ug ((min ys.length len:Nat):Int)) (id::i2) [(id,some (rows.take off++ys.take (min ys.length len)++rows.drop (off+min ys.length len)))])else none|_=>none)|_,_,_=>none)|_,_=>none
/-! Maps: keys and values of one cell without an address. -/
def K1:TypeDesc→Bool| .int _| .string| .bool=>true|_=>false
def uQ(L:Id→Option (Option Rows)):aa→Option (Rows×List Id)| .mr id=>(match L id with|some (some rows)=>some (rows,[id])|_=>none)| .im rows=>some (rows,[])| .val (.map none)=>some ([],[])|_=>none
def oD(kind:TypeDesc)(k:Value):Rows→Option (Option Value)|[]=>some none|[.val k', .val v]::rs=>(match Instr.sameNow kind k k' with|some true=>some (some v)|some false=>oD kind k rs|none=>none)|_=>none
def xw(kind:TypeDesc)(k v:Value):Rows→Option Rows|[]=>some [[.val k, .val v]]|[.val k', .val v']::rs=>(match Instr.sameNow kind k k' with|some true=>some ([.val k, .val v]::rs)|some false=>(xw kind k v rs).map fun y=>[.val k', .val v']::y|none=>none)|_=>none
def KW(C:aV)(t:TypeId):Option Value:=match(C.P.info? t).bind (·.zero)with|some v=>if er v then some v else none|none=>none
def zN(C:aV)(t:TypeId):Option (TypeDesc×Value):=match C.P.underlying t with|some (.map kt et)=>(match C.P.underlying kt,KW C et with|some kind,some z=>if K1 kind then some (kind,z)else none|_,_=>none)|_=>none
def sx(C:aV)(S:an)(o:Oper)(t:TypeId)(r:Option Operand):Option bx:=match zN C t,o.dst with|some _,some d=>if r.isNone&&(S.h [d]).isNone then some (put o (.mr [d]) [] [([d],some [])])else none|_,_=>none
def nH(C:aV)(S:an)(o:Oper)(t:TypeId)(x k:aa)(ok:Bool):Option bx:=match zN C t,uQ S.h x,k with|some (kind,z),some (rows,ids), .val kv=>(oD kind kv rows).map fun r=>put o (if ok then .b9 [.val (r.getD z), .val (.bool r.isSome)]else .val (r.getD z)) ids []|_,_,_=>none
def pQ(C:aV)(S:an)(o:Oper)(t:TypeId)(x k v:aa):Option bx:=match zN C t,x,k,v with|some (kind,_), .mr id, .val kv, .val ng=>(match S.h id with|some (some rows)=>if er kv&&er ng&&o.dst.isNone then(xw kind kv ng rows).map fun bZ=>put o .bX [id] [(id,some bZ)]else none|_=>none)|_,_,_,_=>none
def bD(C:aV)(f:FuncId)(call:FuncId→List aa→Option (aa×List aa))(S:an)(g:Bool)(o:Oper):Option bx:=match o.op with| .move x=>ret o (un g (S.get C x))| .assign x=>ret o (un g (S.get C x))| .pick c a b=>uf o (un g (S.get C c)) (un (g&&lP (un g (S.get C c))) (S.get C a)) (un (g&& !lP (un g (S.get C c))) (S.get C b))| .alloc t=>pN C f S o t| .box t x=>pO C f S o t (un g (S.get C x))| .build t parts=>ud C f o t (parts.toList.map fun p=>(p.1,un g (S.get C p.2)))| .buildSlice t len parts=>nF C f S o t len (parts.toList.map fun p=>(p.1,un g (S.get C p.2)))| .load t a=>lT C S o t (un g (S.get C a))| .store t a x=>nJ C f S g o t a (un g (S.get C a)) (un g (S.get C x))| .nilCheck x=>y4 o (un g (S.get C x))| .binOp op t x y _=>nE C o op t x y (un g (S.get C x)) (un g (S.get C y))| .unOp op _ x=>vX C o op (un g (S.get C x))| .convert src dst x=>vV C o src dst (un g (S.get C x))| .makeInterface t x=>Fj C o t (un g (S.get C x))| .makeFunc fn first caps=>ret o (.fn fn (first.toList.map fun x=>un g (S.get C x)) (caps.toList.map fun x=>un g (S.get C x)))| .makeSlice t l c=>sw C S o t (un g (S.get C l)) (un g (S.get C c))| .slice t x lo hi mx=>if mx.isSome then none else pS C S o t (un g (S.get C x)) (lo.map fun y=>eF (un g (S.get C y))) (hi.map fun y=>eF (un g (S.get C y)))| .fieldAddr s x i=>qN C f o s i (un g (S.get C x))| .field s x i=>Fh C o s i (un g (S.get C x))| .indexAddr t x i=>nG C S o t (un g (S.get C x)) (eF (un g (S.get C i)))| .index t x i=>y3 C o t (un g (S.get C x)) (eF (un g (S.get C i)))| .extract x i=>y2 o (un g (S.get C x)) i| .makeMap t r=>sx C S o t r| .lookup t x k ok=>nH C S o t (un g (S.get C x)) (un g (S.get C k)) ok| .mapUpdate t x k v=>pQ C S o t (un g (S.get C x)) (un g (S.get C k)) (un g (S.get C v))| .insert t x k v=>pQ C S o t (un g (S.get C x)) (un g (S.get C k)) (un g (S.get C v))| .call c=>(match c.callee with| .builtin .len=>qO C o c.argTypes (c.args.toList.map fun x=>un g (S.get C x))| .builtin .append=>(kZ C S o c.argTypes (c.args.toList.map fun x=>un g (S.get C x))).bind (pT C f o)| .builtin .copy=>vW C S o c.argTypes (c.args.toList.map fun x=>un g (S.get C x))| .builtin .max=>(match jb (c.args.toList.map fun x=>un g (S.get C x))with|some vs=>j5 o (Ge C.P c.argTypes o.type vs)|none=>none)| .builtin .min=>(match jb (c.args.toList.map fun x=>un g (S.get C x))with|some vs=>j5 o (abQ C.P c.argTypes o.type vs)|none=>none)| .value dX=>(match pathOf C dX with|some p=>pP S o p (c.args.toList.map fun x=>un g (S.get C x))|none=>if rS C dX then(match dX with| .func k=>qJ C f call S o k (c.args.toList.map fun x=>un g (S.get C x))|_=>none)else nw C f call S o (un g (S.get C dX)) (c.args.toList.map fun x=>un g (S.get C x)))|_=>none)|_=>none
/-! ## Regions -/
def qU(S:an)(ops:Array Oper)(o:Oper):Option Bool:=match o.guard with|none=>some true|some (j,want)=>match(ops[j]?).bind (·.dst)with|some d=>(match S.t d with| .val (.bool b)=>some (b==want)| .dj g (.val (.bool b))=>some (g&&(b==want))| .dj false _=>some false|_=>none)|none=>none
def zD(o:Oper):bx:=put o (.dj false .bX) [] []
def ue(C:aV)(f:FuncId)(call:FuncId→List aa→Option (aa×List aa))(S:an)(ops:Array Oper)(o:Oper):Option bx:=match qU S ops o with|none=>none|some g=>match o.guard with|none=>bD C f call S true o|some _=>match bD C f call S g o with|some e=>if e.wr.isEmpty then some {e with ec:=e.ec.map fun x=>(x.1, .dj g x.2)}else if g then some e else some (zD o)|none=>if g then none else some (zD o)
abbrev ie:=Nat×List Id×List Id
def hkey(i:Nat)(e:bx)(l:List ie):List ie:=if e.rd.isEmpty&&e.wr.isEmpty then l else(i,e.rd,e.wr.map (·.1))::l
def nI(C:aV)(f:FuncId)(call:FuncId→List aa→Option (aa×List aa))(ops:Array Oper):Nat→List Oper→an→Option (an×List ie)|_,[],S=>some (S,[])|i,o::l,S=>(ue C f call S ops o).bind fun e=>if e.ec.all fun x=>decide (x.1<S.n)then(nI C f call ops (i+1) l (S.app e)).map fun x=>(x.1,hkey i e x.2)else none
def qm(C:aV)(f:FuncId)(o:Oper):List Nat:=o.dst.toList++(match o.op with| .store _ a _=>(v7 C f a).toList|_=>[])
def slotsOf(ops:Array Oper)(o:Oper):List Nat:=(o.op.operands.toList.filterMap fun| .tmp t=>some t|_=>none)++(match o.guard with|some (j,_)=>(match(ops[j]?).bind (·.dst)with|some d=>[d]|none=>[])|none=>[])
def BJ(C:aV)(f:FuncId)(ops:Array Oper)(oi oj:Oper):Bool:=((qm C f oi).all fun x=> !(slotsOf ops oj).contains x&& !(qm C f oj).contains x)&&((qm C f oj).all fun y=> !(slotsOf ops oi).contains y)
def Dj(a s:List Nat):List Nat:=a.foldl (fun s x=>if s.contains x then s else x::s) s
def E2(ops:Array Oper):List (List Nat):=ops.toList.foldl (init:=[]) fun acc o=>acc++[o.after.toList.foldl (init:=[]) fun s e=>if Region.binds .any e then(if s.contains e.on then s else e.on::Dj (acc.getD e.on []) s)else s]
def A3 (C : aV) (f : FuncId) (id : Nat) (ops : Array Oper) : Bool :=
  let b := E2 ops
  let l := ops.toList.zipIdx
  Region.noSelect ops && (l.all fun x => l.all fun y => if x.2 < y.2 then (b.getD y.2 []).contains x.2 || BJ C f ops x.1 y.1 else true) &&
  (l.all fun x => x.1.after.all fun e => !Region.binds .any e || decide (e.on < x.2)) && (C.gU f id).all fun p => (b.getD p.2 []).contains p.1
def su(a b:ie):Bool:=(a.2.2.all fun x=> !b.2.1.contains x&& !b.2.2.contains x)&&(b.2.2.all fun x=> !a.2.1.contains x)
def oF(gU:List (Nat×Nat)):List ie→Bool|[]=>true|x::l=>(l.all fun y=>gU.contains (x.1,y.1)||su x y)&&oF gU l
def qP(C:aV)(f:FuncId)(call:FuncId→List aa→Option (aa×List aa))(id:Nat)(ops:Array Oper)(draw:Bool)(S:an):Option an:=(nI C f call ops 0 ops.toList S).bind fun x=>if draw then(if oF (C.gU f id) x.2 then some x.1 else none)else some x.1
/-! ## Code -/
def lU:Code→Option Nat| .region id _ _=>some id| .seq a b=>(match lU a with|some i=>some i|none=>lU b)| .cond _ a b=>(match lU a with|some i=>some i|none=>lU b)| .block _ c=>lU c| .loop c=>lU c| .scope c=>lU c|_=>none
def jv(L:Id→Option (Option Rows))(t:Nat→aa):List Nat→Option (List aa×List Id)|[]=>some ([],[])|s::l=>(pk L 9 (t s)).bind fun x=>(jv L t l).map fun y=>(x.1::y.1,x.2++y.2)
def iF(S:an)(slots:List Nat):Option (List aa):=match jv S.h S.t slots with|some (cc,ids)=>if fN ids then some cc else none|none=>none
def aF (n : Nat) : List Nat → List aa → an
  | s :: l, v :: vs =>
    let S := aF n l vs
    { n, t := aE S.t s (imp [s] v).1, h := bL S.h (imp [s] v).2 }
  | _, _ => { n, t := fun _ => .bX, h := fun _ => none }
/-! What lives at a loop's head where names may be shared: the state itself, under names of its own. -/
def m3(l:List (Id×Id))(i:Id):Option Id:=match l with|[]=>none|(o,k)::l=>if o=i then some k else m3 l i
def xQ(l:List (Id×Id)):aa→Option aa| .rs i off len=>(m3 l i).map fun k=> .rs k off len| .mp i row off=>(m3 l i).map fun k=> .mp k row off| .mr i=>(m3 l i).map fun k=> .mr k| .cN=>some .cN|a=>if flat a then some a else none
def lC(l:List (Id×Id)):List aa→Option (List aa)|[]=>some []|a::as=>match xQ l a,lC l as with|some b,some bs=>some (b::bs)|_,_=>none
def DY(l:List (Id×Id)):aa→aa| .agg cs=>(match lC l cs with|some bs=> .agg bs|none=> .bX)| .b9 cs=>(match lC l cs with|some bs=> .b9 bs|none=> .bX)| .fn f as cs=>(match lC l as,lC l cs with|some bs,some ds=> .fn f bs ds|_,_=> .bX)|a=>match xQ l a with|some b=>b|none=> .bX
def AO(l:List (Id×Id)):Rows→Option Rows|[]=>some []|r::rs=>match lC l r,AO l rs with|some b,some bs=>some (b::bs)|_,_=>none
def tf(l:List (Id×Id))(rows:Rows):Option Rows:=if eN rows then some rows else AO l rows
def gC(L:Id→Option (Option Rows)):Nat→Id→Nat→List (Id×Id)→List aa→List (Id×Id)|0,_,_,acc,_=>acc|_,_,_,acc,[]=>acc|n+1,p,j,acc,a::as=>gC L n p (j+1) (match a with| .rs i _ _=>if(m3 acc i).isSome then acc else acc++[(i,j::p)]| .mr i=>if(m3 acc i).isSome then acc else acc++[(i,j::p)]| .mp i _ _=>if(m3 acc i).isSome then acc else(match L i with|some (some [cs])=>gC L n (j::p) 0 (acc++[(i,j::p)]) cs|_=>acc++[(i,j::p)])| .agg cs=>gC L n (j::p) 0 acc cs|_=>acc) as
def oG(L:Id→Option (Option Rows))(l:List (Id×Id)):List (Id×Id)→Option (List (Id×Rows))|[]=>some []|(o,k)::r=>match L o,oG L l r with|some (some rows),some y=>(tf l rows).map fun bZ=>(k,bZ)::y|_,_=>none
def mX(l:List (Id×Id))(t:Nat→aa):List Nat→Nat→aa|[]=>fun _=> .bX|s::r=>aE (mX l t r) s (DY l (t s))
def qe:List (Id×Rows)→Id→Option (Option Rows)|[]=>fun _=>none|(k,rows)::r=>aE (qe r) k (some (some rows))
def names(S:an)(slots:List Nat):List (Id×Id):=slots.foldl (fun acc s=>gC S.h 40 [s] 0 acc [S.t s]) []
def pI(L:Id→Option (Option Rows))(keep:Id→Bool):aa→Option (aa×List Id)| .rs i off len=>if keep i then some (.rs i off len,[])else pk L 8 (.rs i off len)| .mp i row off=>if keep i then some (.mp i row off,[])else pk L 8 (.mp i row off)| .mr i=>if keep i then some (.mr i,[])else pk L 8 (.mr i)| .cN=>some (.own [] 0,[])|a=>if flat a then some (a,[])else none
def yQ(L:Id→Option (Option Rows))(keep:Id→Bool)(r:List aa):Option (List aa×List Id):=if ey r then some (r,[])else eD (pI L keep) r
def pJ(keep:Id→Bool)(S:an)(o:Id):Option an:=match S.h o with|some (some rows)=>if eN rows then some S else(match ek (yQ S.h keep) rows with|some (bZ,ids)=>if fN ids&& !ids.contains o then some ⟨S.n,S.t,bL S.h ((o,some bZ)::ids.map fun i=>(i,none))⟩else none|none=>none)|_=>none
def iL(keep:Id→Bool):List Id→an→Option an|[],S=>some S|o::l,S=>(pJ keep S o).bind (iL keep l)
def sV(S:an)(s:Nat):an:=match S.t s,S.h [s,s]with| .cN,none=>⟨S.n,aE S.t s (.rs [s,s] 0 0),aE S.h [s,s] (some (some []))⟩|_,_=>S
def kH:List Nat→an→an|[],S=>S|s::l,S=>kH l (sV S s)
def Pz(l:List (Id×Id))(i:Id):Bool:=(m3 l i).isSome
def sW(l:List (Id×Id))(slots:List Nat)(S:an):Option an:=if fN (l.map (·.1))&&fN (l.map (·.2))then(oG S.h l l).map fun hl=>⟨S.n,mX l S.t slots,qe hl⟩else none
def Dp(S:an)(slots:List Nat)(l:List (Id×Id)):Option an:=(iL (Pz l) (l.map (·.1)) S).bind (sW l slots)
def norm(S:an)(slots:List Nat):Option an:=Dp (kH slots S) slots (names (kH slots S) slots)
def ei(o:Option (Bool×List Nat))(S:an):Option an:=match o with|none=>some S|some (true,l)=>norm S l|some (false,l)=>(iF S l).map (aF S.n l)
def rO(C:aV)(f:FuncId)(b:Code):Option (Bool×List Nat):=match lU b with|some i=>C.H7 f i|none=>none
def qR(S:an)(s:Nat):Option an:=match S.t s with| .mp id 0 0=>(match S.h id with|some (some [cells])=>if dU cells then some ⟨S.n,aE S.t s (.au cells),aE S.h id (some none)⟩else none|_=>none)|_=>none
def lV:List Nat→an→Option an|[],S=>some S|s::l,S=>(qR S s).bind (lV l)
def qM(C:aV)(f:FuncId)(id:Nat)(S:an):Option an:=(lV (C.qT f id) S).bind (ei (C.nB f id))
abbrev vw:=(α:Type)→(α→Option (Exit×an))→(an→Option α)→α→Option (Exit×an)
def gX{α:Type}(g:α→Option (Exit×an))(rn:an→Option α):Nat→α→Option (Exit×an)|0,_=>none|n+1,cc=>(g cc).bind fun x=>match x.1 with| .normal=>(rn x.2).bind (gX g rn n)|_=>some x
/-! A range over a function: each round begins with the slots of the loop's entry, and with what has been yielded. -/
def s5(t:Nat→aa):List (Nat×aa)→Nat→aa|[]=>t|(p,v)::l=>s5 (aE t p v) l
def D2(S:an)(ps:List Nat)(y:List aa):Option an:=if ps.length=y.length∧(ps.all fun p=>decide (p<S.n))=true then some ⟨S.n,s5 S.t (ps.zip y),S.h⟩else none
def pR(g:an→Option (Exit×an))(rn:an→Option an)(ps:List Nat):List (List aa)→an→Option (Exit×an)|[],S=>some (.normal,S)|y::ys,S=>(D2 S ps y).bind fun ck=>(g ck).bind fun x=>(rn x.2).bind fun eM=>match x.1 with| .normal=>pR g rn ps ys eM| .ret=>some (.ret,eM)| .exit i=>some (.exit i,eM)|_=>none
def Re(assign body:Code):Option Nat:=match lU assign with|some i=>some i|none=>lU body
def xA(C:aV)(f:FuncId)(assign body:Code):List Nat:=match Re assign body with|some i=>C.live f i|none=>[]
def xz(C:aV)(f:FuncId)(assign body:Code):Option (Bool×List Nat):=some (match Re assign body with|some i=>C.shr f i|none=>false,xA C f assign body)
def zZ (C : aV) (x : aa) : Option (List (List aa)) := match x with
  | .fn (.func k) [] caps => if dU caps then (C.iter k).bind (· caps) else none
  | _ => none
def cL (C : aV) (f : FuncId) (call : FuncId → List aa → Option (aa × List aa)) (cF : vw) : Code → an → Option (Exit × an)
  | .skip, S => some (.normal, S)
  | .label _, S => some (.normal, S)
  | .exit id, S => some (.exit id, S)
  | .ret, S => some (.ret, S)
  | .region id ops draw, S => ((qP C f call id ops draw S).bind (qM C f id)).map fun S' => (.normal, S')
  | .seq a b, S => (cL C f call cF a S).bind fun x => match x.1 with
    | .normal => (ei (rO C f b) x.2).bind (cL C f call cF b)
    | _ => some x
  | .cond c a b, S => match un true (S.get C c) with
    | .val (.bool t) => if t then cL C f call cF a S else cL C f call cF b S
    | _ => none
  | .block id c, S => (cL C f call cF c S).bind fun x => match (match x.1 with | .exit i => if i = id then .normal else .exit i | e => e : Exit) with
    | .normal => (ei (C.oB f id) x.2).map fun S' => (.normal, S')
    | e => some (e, x.2)
  | .loop c, S =>
    let slots := match lU c with | some i => C.live f i | none => []
    if (match lU c with | some i => C.shr f i | none => false) then
      (norm S slots).bind fun ck => cF an (fun S' => cL C f call cF c S') (fun S' => norm S' slots) ck
    else (iF S slots).bind fun cc => cF (List aa) (fun cc => cL C f call cF c (aF S.n slots cc)) (fun S' => iF S' slots) cc
  | .rangeFunc g ps assign body, S => (zZ C (un true (S.get C g))).bind fun ys => (ei (xz C f assign body) S).bind
      (pR (fun ck => (cL C f call cF assign ck).bind fun x => match x.1 with | .normal => cL C f call cF body x.2 | _ => none) (ei (xz C f assign body)) ps.toList ys)
  | _, _ => none
/-! ## Functions -/
def tg(C:aV)(S:an):ResultVar→Option (aa×List Id)| .tmp t=>pk S.h 9 (un true (S.t t))| .cell a ty=>match kC C ty,gH C ty,un true (S.t a)with|some b,some n, .au cells=>if n≤cells.length then((kG b (cells.take n)).bind (pk S.h 9))else none|some b,some n, .mp id row off=>(match S.h id with|some (some rows)=>(match rows[row]? with|some r=>if off+n≤r.length then((kG b ((r.drop off).take n)).bind (pk S.h 9)).map fun x=>(x.1,id::x.2)else none|none=>none)|_=>none)|_,_,_=>none
def j4(C:aV)(S:an):List ResultVar→Option (List aa×List Id)|[]=>some ([],[])|r::l=>(tg C S r).bind fun x=>(j4 C S l).map fun y=>(x.1::y.1,x.2++y.2)
def finish(C:aV)(fn:Func)(cR:List Nat)(_args:List aa)(S:an):Option (aa×List aa):=match j4 C S fn.results.toList,jv S.h S.t cR with|some (rs,i1),some (outs,i2)=>if fN (i1++i2)then some (match rs with|[r]=>r|_=> .b9 rs,outs)else none|_,_=>none
def yY(C:aV)(call:FuncId→List aa→Option (aa×List aa))(cF:vw)(f:FuncId)(args:List aa):Option (aa×List aa):=match C.ext f with|some g=>g args|none=>match C.P.funcs[f]? with|some fn=>(match fn.body with|some c=>if args.length≤fn.ntmps then(cL C f call cF c (aF fn.ntmps (List.range args.length) args)).bind fun x=>match x.1 with| .normal=>finish C fn (C.cR f) args x.2| .ret=>finish C fn (C.cR f) args x.2|_=>none else none|none=>none)|none=>none
end Go.Ab
