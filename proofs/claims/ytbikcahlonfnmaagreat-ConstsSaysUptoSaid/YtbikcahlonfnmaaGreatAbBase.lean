import Derived.Deep.Quiet
namespace Go.Ab
open Go
abbrev Id:=List Nat
inductive aa where|val(v:Value)|sl(rows:List (List aa))|aq(cells:List aa)|cu|rs(id:Id)(off len:Nat)|mp(id:Id)(row off:Nat)|fn(f:Fn)(first caps:List aa)|agg(cells:List aa)|bL(vs:List aa)|own(rows:List (List aa))(len:Nat)|aL(cells:List aa)|dz(g:Bool)(x:aa)|nn|mr(id:Id)|ez(rows:List (List aa))|im(rows:List (List aa))|dL(id:List Nat)(rows:List (List aa))|BZ(v:Value)|bz deriving Inhabited
abbrev Rows:=List (List aa)
structure ak where
  n : Nat
  t : Nat → aa
  h : Id → Option (Option Rows)
structure bx where
  ep : List (Nat × aa)
  rd : List Id
  wr : List (Id × Option Rows)
def av{α β:Type}[DecidableEq α](f:α→β)(k:α)(v:β):α→β:=fun j=>if j=k then v else f j
def di(t:Nat→aa):List (Nat×aa)→Nat→aa|[]=>t|(i,v)::l=>av (di t l) i v
def bw(h:Id→Option (Option Rows)):List (Id×Option Rows)→Id→Option (Option Rows)|[]=>h|(i,r)::l=>av (bw h l) i (some r)
def ak.app(s:ak)(e:bx):ak:={n:=s.n,t:=di s.t e.ep,h:=bw s.h e.wr}
def eJ:Value→Bool| .bool _| .int _ _| .float _ _| .string _| .pointer _| .nilFunc| .nilIface| .map none| .iface _ (.int _ _)| .iface _ (.string _)| .iface _ (.bool _)=>true|_=>false
def dD{α:Type}(P:Program):Sem α→Option α| .pure a=>some a| .program k=>dD P (k P)|_=>none
structure aO where
  P : Program
  cC : Nat → Option (List aa)
  ext : FuncId → Option (List aa → Option (aa × List aa))
  cw : FuncId → List Nat
  y7 : FuncId → List Nat := fun _ => []
  shr : FuncId → Nat → Bool := fun _ _ => false
  eR : FuncId → List Nat
  live : FuncId → Nat → List Nat
  gW : FuncId → Nat → List (Nat × Nat)
  jH : FuncId → Nat → Option (Bool × List Nat) := fun _ _ => none
  pN : FuncId → Nat → Option (Bool × List Nat) := fun _ _ => none
  HL : FuncId → Nat → Option (Bool × List Nat) := fun _ _ => none
  path : FuncId → Option (Nat × Nat) := fun _ => none
  uO : FuncId → Nat → List Nat := fun _ _ => []
  iter : FuncId → Option (List aa → Option (List (List aa))) := fun _ => none
  look : FuncId → Bool := fun _ => false
  kH : FuncId → Nat → List Nat := fun _ _ => []
  c6 : FuncId → Bool := fun _ => false
  j4 : FuncId → Nat → List Nat := fun _ _ => []
  mN : FuncId → Nat → List Nat := fun _ _ => []
  u9 : FuncId → List Id := fun _ => []
  ao6 : FuncId → Nat → Bool := fun _ _ => false
def ak.get(C:aO)(s:ak):Operand→aa| .tmp t=>s.t t| .const v=>if eJ v then .val v else(match v with| .slice none 0 0=> .cu|_=> .bz)| .global g=>(match C.cC g with|some cs=> .aq cs|none=> .bz)| .func f=> .fn (.func f) [] []
def un(g:Bool):aa→aa| .dz g' x=>if !g||g' then x else .bz|x=>x
def jx:List aa→Option (List Value)|[]=>some []| .val v::l=>(jx l).map (v::·)|_::_=>none
def mB:aa→Option Value| .val v=>some v| .agg cs=>(jx cs).map fun vs=> .agg ⟨vs⟩|_=>none
def NC(v:Value):Option aa:=if eJ v then some (.val v)else match v with| .slice none 0 0=>some .cu|_=>none
def BW:List Value→Option (List aa)|[]=>some []|v::l=>match NC v with|some a=>(BW l).map (a::·)|none=>none
def Ai(C:aO)(t:TypeId):Option (List aa):=match(C.P.info? t).bind (·.zero)with|some v=>BW v.cells.toList|none=>none
def NB(v:Value):Option aa:=if eJ v then some (.val v)else match v with| .slice none 0 0=>some (.own [] 0)|_=>none
def zf:List Value→Option (List aa)|[]=>some []|v::l=>match NB v with|some a=>(zf l).map (a::·)|none=>none
def Aj(C:aO)(t:TypeId):Option (List aa):=match(C.P.info? t).bind (·.zero)with|some v=>zf v.cells.toList|none=>none
def gL(C:aO)(t:TypeId):Option Nat:=(C.P.info? t).map (·.size)
def kK(C:aO)(t:TypeId):Option Bool:=(C.P.underlying t).map fun| .struct _=>true| .array _ _=>true|_=>false
def nz:aa→aa| .cu=> .sl []|x=>x
def kN(l:List aa):List aa:=l.map nz
def aa.cell:aa→Bool| .val _| .sl _| .aq _| .cu| .rs _ _ _| .mp _ _ _| .fn _ _ _| .nn| .mr _| .im _=>true|_=>false
def oo(IU:Bool):aa→Option (List aa)| .agg cs=>if IU&&cs.all aa.cell then some cs else none|x=>if !IU&&x.cell then some [x]else none
def jX(IU:Bool)(cs:List aa):Option aa:=if IU then some (.agg cs)else match cs with|[c]=>some c|_=>none
def bQ(p:Id):Nat→List aa→List aa×List (Id×Option Rows)|_,[]=>([],[])|j,c::cs=>match c with| .own rows len=>(.rs (j::p) 0 len::(bQ p (j+1) cs).1,(j::p,some rows)::(bQ p (j+1) cs).2)| .aL cells=>(.mp (j::p) 0 0::(bQ p (j+1) cs).1,(j::p,some [cells])::(bQ p (j+1) cs).2)| .ez rows=>(.mr (j::p)::(bQ p (j+1) cs).1,(j::p,some rows)::(bQ p (j+1) cs).2)| .agg _=>(.bz::(bQ p (j+1) cs).1,(bQ p (j+1) cs).2)| .bL _=>(.bz::(bQ p (j+1) cs).1,(bQ p (j+1) cs).2)|c=>(c::(bQ p (j+1) cs).1,(bQ p (j+1) cs).2)
def ff(p:Id):Nat→List aa→List aa×List (Id×Option Rows)|_,[]=>([],[])|j,c::cs=>match c with| .own rows len=>(.rs (j::p) 0 len::(ff p (j+1) cs).1,(j::p,some rows)::(ff p (j+1) cs).2)| .aL cells=>(.mp (j::p) 0 0::(ff p (j+1) cs).1,(j::p,some [cells])::(ff p (j+1) cs).2)| .ez rows=>(.mr (j::p)::(ff p (j+1) cs).1,(j::p,some rows)::(ff p (j+1) cs).2)| .agg l=>(.agg (bQ (j::p) 0 l).1::(ff p (j+1) cs).1,(bQ (j::p) 0 l).2++(ff p (j+1) cs).2)| .bL _=>(.bz::(ff p (j+1) cs).1,(ff p (j+1) cs).2)|c=>(c::(ff p (j+1) cs).1,(ff p (j+1) cs).2)
def imp(p:Id):aa→aa×List (Id×Option Rows)| .own rows len=>(.rs p 0 len,[(p,some rows)])| .aL cells=>(.mp p 0 0,(p,some [(bQ p 0 cells).1])::(bQ p 0 cells).2)| .ez rows=>(.mr p,[(p,some rows)])| .agg l=>(.agg (bQ p 0 l).1,(bQ p 0 l).2)| .bL l=>(.bL (ff p 0 l).1,(ff p 0 l).2)|x=>(x,[])
mutual def flat:aa→Bool| .rs _ _ _| .mp _ _ _| .dz _ _| .cu| .mr _=>false| .own rows _=>eH rows| .aL cells=>cT cells| .agg cells=>cT cells| .bL vs=>cT vs| .fn _ first caps=>cT first&&cT caps|_=>true def cT:List aa→Bool|[]=>true|c::cs=>flat c&&cT cs def eH:List (List aa)→Bool|[]=>true|r::rs=>cT r&&eH rs end
mutual def fu:aa→Bool| .rs _ _ _| .mp _ _ _| .dz _ _| .cu| .own _ _| .aL _| .mr _| .ez _| .bz=>false| .agg cells=>ek cells| .bL vs=>ek vs| .fn _ first caps=>ek first&&ek caps|_=>true def ek:List aa→Bool|[]=>true|c::cs=>fu c&&ek cs end
def iC(rows:Rows):Bool:=rows.all ek
def dV(p:aa→Option (aa×List Id)):List aa→Option (List aa×List Id)|[]=>some ([],[])|c::cs=>(p c).bind fun x=>(dV p cs).map fun y=>(x.1::y.1,x.2++y.2)
def ec(p:List aa→Option (List aa×List Id)):Rows→Option (Rows×List Id)|[]=>some ([],[])|r::rs=>(p r).bind fun x=>(ec p rs).map fun y=>(x.1::y.1,x.2++y.2)
def gT(p:aa→Option (aa×List Id))(cs:List aa):Option (List aa×List Id):=if cT cs then some (cs,[])else dV p cs
def lH(p:aa→Option (aa×List Id))(rs:Rows):Option (Rows×List Id):=if eH rs then some (rs,[])else ec (gT p) rs
def pk(L:Id→Option (Option Rows)):Nat→aa→Option (aa×List Id)|0,_=>none|n+1,a=>match a with| .rs id off len=>(match L id with|some (some rs)=>if off=0∧len≤rs.length then(lH (pk L n) rs).map fun x=>(.own x.1 len,id::x.2)else none|_=>none)| .mp id row off=>(match L id with|some (some [cs])=>if row=0∧off=0 then(gT (pk L n) cs).map fun x=>(.aL x.1,id::x.2)else none|_=>none)| .mr id=>(match L id with|some (some rs)=>some (.ez rs,[id])|_=>none)| .cu=>some (.own [] 0,[])| .agg cs=>(gT (pk L n) cs).map fun x=>(.agg x.1,x.2)| .bL cs=>(gT (pk L n) cs).map fun x=>(.bL x.1,x.2)| .fn f a b=>if ek a&&ek b then some (.fn f a b,[])else none| .dz _ _=>some (.bz,[])| .own rs len=>if eH rs then some (.own rs len,[])else none| .aL cs=>if cT cs then some (.aL cs,[])else none|a=>some (a,[])
def fM(p:aa→Option (aa×List Id))(cs:List aa):Option (List aa×List Id):=if ek cs then some (cs,[])else dV p cs
def k3(p:aa→Option (aa×List Id))(rs:Rows):Option (Rows×List Id):=if iC rs then some (rs,[])else ec (fM p) rs
def bT(L:Id→Option (Option Rows)):Nat→aa→Option (aa×List Id)|0,_=>none|n+1,a=>match a with| .rs id off len=>(match L id with|some (some rs)=>if off+len≤rs.length then(k3 (bT L n) ((rs.drop off).take len)).map fun x=>(.sl x.1,id::x.2)else none|_=>none)| .mp id row off=>(match L id with|some (some rs)=>(match rs[row]? with|some r=>if off≤r.length then(fM (bT L n) (r.drop off)).map fun x=>(.aq x.1,id::x.2)else none|none=>none)|_=>none)| .mr id=>(match L id with|some (some rs)=>some (.im rs,[id])|_=>none)| .ez rs=>some (.im rs,[])| .own rs len=>(k3 (bT L n) (rs.take len)).map fun x=>(.sl x.1,x.2)| .aL cs=>(fM (bT L n) cs).map fun x=>(.aq x.1,x.2)| .cu=>some (.sl [],[])| .agg cs=>(fM (bT L n) cs).map fun x=>(.agg x.1,x.2)| .bL cs=>(fM (bT L n) cs).map fun x=>(.bL x.1,x.2)| .fn f a b=>(fM (bT L n) a).bind fun x=>(fM (bT L n) b).map fun y=>(.fn f x.1 y.1,x.2++y.2)| .dz _ _=>some (.bz,[])|a=>some (a,[])
def r6(L:Id→Option (Option Rows))(as:List aa):Option (List aa×List Id):=dV (bT L 9) as
/-! ## One operation -/
def put(o:Oper)(v:aa)(rd:List Id)(wr:List (Id×Option Rows)):bx:={ep:=match o.dst with|some d=>[(d,v)]|none=>[],rd,wr}
def fresh(L:Id→Option (Option Rows))(l:List (Id×Option Rows)):Bool:=l.all fun x=>(L x.1).isNone
def FL(C:aO):List Field→Option (List (Nat×Nat×Bool))|[]=>some []|f::l=>match gL C f.type,kK C f.type,FL C l with|some n,some b,some r=>some ((f.offset,n,b)::r)|_,_,_=>none
def NP(C:aO)(t:TypeId):Option (List (Nat×Nat×Bool)):=match C.P.underlying t with|some (.struct fields)=>FL C fields.toList|_=>none
def xW(place:List (Nat×Nat×Bool))(cells:List aa):List (Nat×aa)→Option (List aa)|[]=>some cells|(i,v)::rest=>match place[i]? with|none=>none|some (off,n,b)=>match oo b v with|none=>none|some cs=>if cs.length=n∧off+n≤cells.length then xW place (cells.take off++cs++cells.drop (off+n)) rest else none
def tG(n:Nat)(b:Bool)(rows:Rows):List (Nat×aa)→Option Rows|[]=>some rows|(i,v)::rest=>match oo b v with|none=>none|some cs=>if cs.length=n∧i<rows.length then tG n b (rows.set i cs) rest else none
def e3:aa→Option Int| .val (.int _ n)=>some n|_=>none
def vi(n:Int):aa:= .val (.int .i64 n)
def nR:Nat:=4294967296
def rowsOf(L:Id→Option (Option Rows)):aa→Option (Rows×List Id)| .sl rows=>some (rows,[])| .cu=>some ([],[])| .rs id off len=>(match L id with|some (some rs)=>if off+len≤rs.length then some ((rs.drop off).take len,[id])else none|_=>none)|_=>none
def qq(rows:Rows):Bool:=rows.all (·.all aa.cell)
def tA(a b:List Id):Bool:=a.all fun x=> !b.contains x
def eu:List Id→Bool|[]=>true|x::l=> !l.contains x&&eu l
mutual def mine:aa→Bool| .val _| .bz| .cu| .nn| .ez _=>true| .own rows _=>Ja rows| .aL cells=>me cells| .agg cells=>me cells| .bL vs=>me vs|_=>false def me:List aa→Bool|[]=>true|c::cs=>mine c&&me cs def Ja:List (List aa)→Bool|[]=>true|r::rs=>me r&&Ja rs end
mutual def dW:aa→aa| .own rows len=> .sl ((jL rows).take len)| .aL cells=> .aq (jK cells)| .ez rows=> .im rows| .agg cells=> .agg (jK cells)| .bL vs=> .bL (jK vs)|x=>x def jK:List aa→List aa|[]=>[]|c::cs=>dW c::jK cs def jL:List (List aa)→List (List aa)|[]=>[]|r::rs=>jK r::jL rs end
def eX(C:aO)(f:FuncId)(d:Option Nat):Bool:=match d with|some d=>(C.eR f).contains d|none=>false
def BX:List aa→Bool|[.val _]=>true|[.aq _]=>true|_=>false
def vS(S:ak)(o:Oper)(as:List aa):Option bx:=match as with|[.val (.int .i64 i), .mp id 0 0, .aq cells]=>(match cells[4]?,S.h id with|some (aa.sl ks),some (some [[.rs gv 0 n]])=>(match S.h gv,ks[i.toNat]? with|some (some rows),some [.val (.int .i64 c)]=>(match rows[c.toNat]? with|some [x]=>if 0≤i∧0≤c∧n=rows.length∧rows.all BX=true∧fu x=true∧o.dst.isSome=true then some (put o x [id,gv] [])else none|_=>none)|_,_=>none)|_,_=>none)|_=>none
def qJ(C:aO)(f:FuncId)(call:FuncId→List aa→Option (aa×List aa))(S:ak)(o:Oper)(fv:aa)(args:List aa):Option bx:=match fv with| .fn (.func k) first caps=>if C.look k then vS S o (first++args++caps)else(match r6 S.h (first++args++caps),o.dst with|some (as,seen),some d=>(match call k as with|some (r,[])=>if !seen.isEmpty&& !mine r then none else if fresh S.h (imp [d] (if eX C f o.dst then dW r else r)).2 then some (put o (imp [d] (if eX C f o.dst then dW r else r)).1 seen (imp [d] (if eX C f o.dst then dW r else r)).2)else none|_=>none)|_,_=>none)|_=>none
def zU(C:aO):Operand→Bool| .func k=> !(C.y7 k).isEmpty|_=>false
def ij(L:Id→Option (Option Rows)):List Nat→List aa→Option (List aa×List Id×List Id×List Id)|_,[]=>some ([],[],[],[])|ms,a::l=>(ij L ms.tail l).bind fun y=>match ms.headD 0 with|1=>(pk L 9 a).map fun x=>(x.1::y.1,y.2.1,x.2++y.2.2.1,y.2.2.2)|2=>(pk L 9 a).map fun x=>(dW x.1::y.1,y.2.1,y.2.2.1,x.2++y.2.2.2)|_=>(bT L 9 a).map fun x=>(x.1::y.1,x.2++y.2.1,y.2.2.1,y.2.2.2)
def iV(L:Id→Option (Option Rows)):aa→aa→Option (List (Id×Option Rows))| .mp id 0 0, .aL cs=>(match L id with|some (some [old])=>if cs.length=old.length then some [(id,some [cs])]else none|_=>none)| .rs id 0 n, .own rows len=>(match L id with|some (some (o1::os))=>if len=n∧rows.length=n∧n=(o1::os).length∧rows.all (·.length==o1.length)then some [(id,some rows)]else none|some (some [])=>if len=0∧rows.length=0∧n=0 then some [(id,some [])]else none|_=>none)| .mr id, .ez rows=>(match L id with|some (some _)=>some [(id,some rows)]|_=>none)| .rs _ _ _,_=>none| .mp _ _ _,_=>none| .mr _,_=>none| .agg _,_=>none|_,_=>some []
def ju(L:Id→Option (Option Rows)):List aa→List aa→Option (List (Id×Option Rows))|[],[]=>some []|a::as,b::bs=>(match iV L a b,ju L as bs with|some x,some y=>some (x++y)|_,_=>none)|_,_=>none
def sP(L:Id→Option (Option Rows)):aa→aa→Option (List (Id×Option Rows))| .agg as, .agg bs=>ju L as bs|a,b=>iV L a b
def gI(L:Id→Option (Option Rows))(args:List aa):List Nat→List aa→Option (List (Id×Option Rows))|[],[]=>some []|j::l,b::bs=>(match args[j]?,gI L args l bs with|some a,some y=>(match sP L a b with|some x=>some (x++y)|none=>none)|_,_=>none)|_,_=>none
def r8(C:aO)(f:FuncId)(call:FuncId→List aa→Option (aa×List aa))(S:ak)(o:Oper)(k:FuncId)(args:List aa):Option bx:=match ij S.h (C.y7 k) args,o.dst with|some (as,seen,tk,dG),some d=>(match call k as with|some (r,outs)=>(match gI S.h args (C.cw k) outs with|some back=>if eu (tk++dG)&&tA seen (tk++dG)&&(seen.isEmpty||mine r&&outs.all mine)&&eu (back.map (·.1))&&(back.all fun x=>tk.contains x.1)&&fresh S.h (imp [d] (if eX C f o.dst then dW r else r)).2 then some (put o (imp [d] (if eX C f o.dst then dW r else r)).1 seen ((imp [d] (if eX C f o.dst then dW r else r)).2++(back++(tk++dG).map fun i=>(i,none))))else none|none=>none)|none=>none)|_,_=>none
def GZ(i:TypeInfo):Bool:=match i.zero with|some z=>z.cells.size==i.size|none=>false
def lQ(S:ak)(o:Oper)(d m:Nat)(x:aa)(xs ys:Rows)(i1 i2:List Id):Option bx:=match x with| .rs id off _=>(match S.h id with|some (some rows)=>if rows.all (·.length==m)&&decide (off=0)&&(!(xs++ys).isEmpty||rows.isEmpty)then some (put o (.rs [d] 0 (xs.length+ys.length)) (i1++i2) [(id,none),([d],some (xs++ys))])else none|_=>none)| .cu=>some (put o (.rs [d] 0 (xs.length+ys.length)) (i1++i2) [([d],some (xs++ys))])|_=>none
def AF(C:aO)(S:ak)(o:Oper)(t:TypeId)(x y:aa):Option bx:=match C.P.underlying t,o.dst with|some (.slice e),some d=>(match C.P.info? e,rowsOf S.h x,rowsOf S.h y with|some i,some (xs,i1),some (ys,i2)=>if ys.all (·.length==i.size)&&decide (0<i.size)&&decide (i.bytes≤4096)&&GZ i&&decide (xs.length+ys.length≤nR)&&qq ys&&(S.h [d]).isNone then lQ S o d i.size x xs ys i1 i2 else none|_,_,_=>none)|_,_=>none
def AG(C:aO)(S:ak)(o:Oper)(t:TypeId)(x y:aa):Option bx:=match C.P.underlying t,o.dst,e3 y with|some (.slice e),some d,some n=>(match C.P.info? e,Aj C e,rowsOf S.h x with|some i,some z,some (xs,i1)=>if decide (0≤n∧n≤4294967296)&&decide (z.length=i.size)&&decide (0<i.size)&&decide (i.bytes≤4096)&&GZ i&&decide (xs.length+n.toNat≤nR)&&z.all aa.cell&&(S.h [d]).isNone then lQ S o d i.size x xs (List.replicate n.toNat z) i1 []else none|_,_,_=>none)|_,_,_=>none
def Fv:aa→Option Nat| .sl rows=>some rows.length| .rs _ _ len=>some len| .cu=>some 0|_=>none
def Fu:TypeDesc→aa→Option Nat| .string, .val (.string s)=>some s.size| .slice _,x=>Fv x|_,_=>none
def ret(o:Oper)(v:aa):Option bx:=some (put o v [] [])
def kS(o:Oper):Option Value→Option bx|some v=>if eJ v then ret o (.val v)else none|none=>none
def vh(o:Oper)(c a b:aa):Option bx:=match c with| .val (.bool h)=>(match a,b with| .val (.bool x), .val (.bool y)=>ret o (.val (.bool (if h then x else y)))|iE,sZ=>ret o (if h then iE else sZ))|_=>none
def OI(l:List Nat):Nat→List aa→List aa|_,[]=>[]|j,c::cs=>(match c with| .own [] 0=>if l.contains j then .sl []else c| .cu=>if l.contains j then .sl []else c|c=>c)::OI l (j+1) cs
def uP(l:List Nat)(cs:List aa):List aa:=match l with|[]=>cs|l=>OI l 0 cs
def G0(C:aO)(f:FuncId)(o:Oper)(cs:List aa):List aa:=match o.dst with|some d=>uP (C.uO f d) cs|none=>cs
def mH:aa→Bool| .val (.bool h)=>h|_=>false
def qQ(C:aO)(f:FuncId)(S:ak)(o:Oper)(t:TypeId):Option bx:=match Aj C t,o.dst with|some cs,some d=>if(S.h [d]).isNone then some (put o (.mp [d] 0 0) [] [([d],some [uP (C.uO f d) cs])])else none|_,_=>none
def qR(C:aO)(f:FuncId)(S:ak)(o:Oper)(t:TypeId)(x:aa):Option bx:=match kK C t,o.dst with|some b,some d=>(match oo b x with|some cs=>if eX C f o.dst&&ek (kN cs)then ret o (.aq (kN cs))else if(S.h [d]).isNone then some (put o (.mp [d] 0 0) [] [([d],some [cs])])else none|none=>none)|_,_=>none
def ve(C:aO)(f:FuncId)(o:Oper)(t:TypeId)(parts:List (Nat×aa)):Option bx:=match Ai C t,NP C t with|some z,some pl=>(match xW pl (G0 C f o z) parts with|some cs=>ret o (.agg cs)|none=>none)|_,_=>none
def tD(C:aO)(f:FuncId)(S:ak)(o:Oper)(t:TypeId)(len:Nat)(parts:List (Nat×aa)):Option bx:=match C.P.underlying t,o.dst with|some (.slice e),some d=>(match Ai C e,kK C e,gL C e with|some z,some b,some n=>if decide (0<n)&&decide (n=z.length)&&decide (len*n≤1000)then match tG n b (List.replicate len z) parts with|some rows=>if eX C f o.dst&&iC (rows.map kN)then ret o (.sl (rows.map kN))else if(S.h [d]).isNone then some (put o (.rs [d] 0 len) [] [([d],some rows)])else none|none=>none else none|_,_,_=>none)|_,_=>none
def AK(C:aO)(t:TypeId)(len:Nat)(parts:List (Nat×aa)):Option Rows:=match C.P.underlying t with|some (.slice e)=>(match Ai C e,kK C e,gL C e with|some z,some b,some n=>if decide (0<n)&&decide (n=z.length)&&decide (len*n≤1000)then tG n b (List.replicate len z) parts else none|_,_,_=>none)|_=>none
def KG(C:aO)(f:FuncId)(o:Oper)(t:TypeId)(len:Nat)(parts:List (Nat×aa)):Bool:=eX C f o.dst&&(match AK C t len parts with|some rows=> !iC (rows.map kN)|none=>false)
def D4(C:aO)(S:ak)(o:Oper)(t:TypeId)(len:Nat)(parts:List (Nat×aa)):Option bx:=match AK C t len parts,o.dst with|some rows,some _=>(match lH (pk S.h 8) rows with|some (br,ids)=>if eu ids then some (put o (.sl (jL br)) ids (ids.map fun i=>(i,none)))else none|none=>none)|_,_=>none
def qS(C:aO)(f:FuncId)(S:ak)(o:Oper)(t:TypeId)(len:Nat)(parts:List (Nat×aa)):Option bx:=if KG C f o t len parts then D4 C S o t len parts else tD C f S o t len parts
def iy(o:Oper):Id:=match o.dst with|some d=>[d]|none=>[1000000]
def mK(C:aO)(S:ak)(o:Oper)(t:TypeId)(a:aa):Option bx:=match kK C t,gL C t with|some b,some n=>(match a with| .aq cells=>if n≤cells.length then(jX b (cells.take n)).map fun v=>put o v [] []else none| .mp id row off=>(match S.h id with|some (some rows)=>(rows[row]?).bind fun r=>if off+n≤r.length then if(bQ (iy o) 0 ((r.drop off).take n)).2.isEmpty then(jX b (bQ (iy o) 0 ((r.drop off).take n)).1).map fun v=>put o v [id] []else if fresh S.h (bQ (iy o) 0 ((r.drop off).take n)).2 then(jX b (bQ (iy o) 0 ((r.drop off).take n)).1).map fun v=>put o v [id] ((id,some (rows.set row (r.take off++(bQ (iy o) 0 ((r.drop off).take n)).1++r.drop (off+n))))::(bQ (iy o) 0 ((r.drop off).take n)).2)else none else none|_=>none)|_=>none)|_,_=>none
def xZ(C:aO)(f:FuncId)(a:Operand):Option Nat:=match a with| .tmp jw=>if(C.eR f).contains jw then some jw else none|_=>none
def oB(C:aO)(f:FuncId)(S:ak)(g:Bool)(o:Oper)(t:TypeId)(ao:Operand)(a x:aa):Option bx:=match kK C t,gL C t with|some b,some n=>(match a,oo b x with| .mp id row off,some cs=>if cs.length≠n then none else(match S.h id with|some (some rows)=>(rows[row]?).bind fun r=>if off+n≤r.length then match xZ C f ao with|some jw=>if decide (off=0)&&decide (n=r.length)&&decide (rows.length=1)&&decide (row=0)&&ek (kN cs)&&g&&o.dst.isNone then some {ep:=[(jw, .aq (kN cs))],rd:=[id],wr:=[(id,none)]}else none|none=>if o.dst.isNone then some (put o .bz [id] [(id,some (rows.set row (r.take off++cs++r.drop (off+n))))])else none else none|_=>none)|_,_=>none)|_,_=>none
def AX(o:Oper):aa→Option bx| .aq cs=>ret o (.aq cs)| .mp id row off=>ret o (.mp id row off)| .fn (.func k) a b=>ret o (.fn (.func k) a b)|_=>none
def eA(P:Program)(op:BinOp)(t:TypeId)(x y:Operand)(a b:Value):Option Value:=dD P (do eqGuard op t x y a b;binOp op t a b)
def Da(P:Program)(op:UnOp)(a:Value):Option Value:=dD P (Op.unary op a)
def HK(P:Program)(src dst:TypeId)(a:Value):Option Value:=dD P (convert src dst a)
def I9(P:Program)(ts:Array TypeId)(t:TypeId)(vs:List Value):Option Value:=dD P (Builtin.max_ ts t ⟨vs⟩)
def agC(P:Program)(ts:Array TypeId)(t:TypeId)(vs:List Value):Option Value:=dD P (Builtin.min_ ts t ⟨vs⟩)
def TE(op:BinOp)(a b:aa):Option Bool:=match op,a,b with| .eql, .nn, .val .nilIface=>some false| .eql, .val .nilIface, .nn=>some false| .neq, .nn, .val .nilIface=>some true| .neq, .val .nilIface, .nn=>some true|_,_,_=>none
def Jz(op:BinOp)(a b:aa):Option Bool:=match op,a,b with| .eql, .aq _, .val (.pointer none)=>some false| .neq, .aq _, .val (.pointer none)=>some true|_,_,_=>none
def ox(C:aO)(o:Oper)(op:BinOp)(t:TypeId)(x y:Operand)(a b:aa):Option bx:=match mB a,mB b with|some a,some b=>kS o (eA C.P op t x y a b)|_,_=>match C.P.underlying t,TE op a b with|some (.interface _),some r=>ret o (.val (.bool r))|some (.pointer _),_=>(match Jz op a b with|some r=>ret o (.val (.bool r))|none=>none)|_,_=>none
def HT(C:aO)(o:Oper)(t:TypeId)(x:aa):Option bx:=match C.P.underlying t with|some (.interface _)=>none|some _=>(match x with| .val v=>if eJ (.iface t v)then ret o (.val (.iface t v))else ret o .nn|_=>ret o .nn)|none=>none
def xV(C:aO)(o:Oper)(op:UnOp):aa→Option bx| .val a=>kS o (Da C.P op a)|_=>none
def D5(C:aO)(o:Oper)(src dst:TypeId):aa→Option bx| .val a=>kS o (HK C.P src dst a)|_=>none
def AL(C:aO)(src dst:TypeId):Bool:=match C.P.underlying src,C.P.underlying dst with|some _,some (.slice e)=>(match C.P.underlying e with|some (.int .u8)=>true|_=>false)|_,_=>false
def HE(s:ByteArray):Rows:=s.data.toList.map fun b=>[.val (.int .u8 b.toNat)]
def K9(o:Oper):aa→Option bx| .val (.string s)=>ret o (.sl (HE s))|_=>none
def xT(C:aO)(o:Oper)(src dst:TypeId)(x:aa):Option bx:=if AL C src dst then K9 o x else D5 C o src dst x
def tE(C:aO)(S:ak)(o:Oper)(t:TypeId)(l c:aa):Option bx:=match C.P.underlying t,o.dst,e3 l,e3 c with|some (.slice e),some d,some l,some c=>(match Aj C e,C.P.info? e with|some z,some i=>if decide (0<z.length)&&decide (i.size=z.length)&&decide (i.bytes≤4096)&&decide (0≤l∧l≤c∧c≤4294967296∧(0<l∨c=0))&&(S.h [d]).isNone then some (put o (.rs [d] 0 l.toNat) [] [([d],some (List.replicate l.toNat z))])else none|_,_=>none)|_,_,_,_=>none
def bounds(lo hi:Option (Option Int))(len:Nat):Option (Nat×Nat):=match(match lo with|none=>some 0|some l=>l),(match hi with|none=>some (len:Int)|some h=>h)with|some l,some h=>if 0≤l∧l≤h∧h≤len then some (l.toNat,h.toNat)else none|_,_=>none
def qV(C:aO)(S:ak)(o:Oper)(t:TypeId)(x:aa)(lo hi:Option (Option Int)):Option bx:=match C.P.underlying t with|some (.slice e)=>(match x,gL C e with| .sl rows,some sz=>(bounds lo hi rows.length).bind fun b=>if 0<sz∧rows.all (·.length==sz)then ret o (.sl ((rows.take b.2).drop b.1))else none| .rs id off len,some sz=>(match S.h id with|some (some rows)=>(bounds lo hi len).bind fun b=>if off+len≤rows.length∧0<sz∧rows.all (·.length==sz)then some (put o (.rs id (off+b.1) (b.2-b.1)) [id] [])else none|_=>none)|_,_=>none)|some .string=>(match x with| .val (.string s)=>(bounds lo hi s.size).bind fun b=>ret o (.val (.string (s.extract b.1 b.2)))|_=>none)|_=>none
def D6(C:aO)(s:TypeId)(i:Nat):Option (Nat×Nat×Bool):=match C.P.underlying s with|some (.struct fields)=>(match fields[i]? with|some cY=>(match gL C cY.type,kK C cY.type with|some n,some b=>some (cY.offset,n,b)|_,_=>none)|none=>none)|_=>none
def se(C:aO)(f:FuncId)(o:Oper)(s:TypeId)(i:Nat)(x:aa):Option bx:=match D6 C s i with|some (off,n,_)=>(match x with| .aq cells=>if 0<n∧off≤cells.length then(if eX C f o.dst then(if off+n≤cells.length then ret o (.aq ((cells.drop off).take n))else none)else ret o (.aq (cells.drop off)))else none| .mp id row off'=>if 0<n then ret o (.mp id row (off'+off))else none|_=>none)|none=>none
def HQ(C:aO)(o:Oper)(s:TypeId)(i:Nat)(x:aa):Option bx:=match D6 C s i with|some (off,n,b)=>(match x with| .agg cells=>if off+n≤cells.length then(jX b ((cells.drop off).take n)).map fun v=>put o v [] []else none|_=>none)|none=>none
def oy(C:aO)(S:ak)(o:Oper)(t:TypeId)(x:aa)(i:Option Int):Option bx:=match C.P.underlying t,i with|some (.slice e),some i=>(match gL C e,x with|some n, .sl rows=>if 0≤i then(rows[i.toNat]?).bind fun r=>if r.length=n∧0<n then ret o (.aq r)else none else none|some n, .rs id off len=>if 0≤i∧i<len then match S.h id with|some (some rows)=>(rows[off+i.toNat]?).bind fun r=>if r.length=n then some (put o (.mp id (off+i.toNat) 0) [id] [])else none|_=>none else none|_,_=>none)|some (.array len e),some i=>(match gL C e,x with|some n, .aq cells=>if 0≤i∧i<len∧i.toNat*n≤cells.length then ret o (.aq (cells.drop (i.toNat*n)))else none|some n, .mp id row off=>if 0≤i∧i<len then ret o (.mp id row (off+i.toNat*n))else none|_,_=>none)|_,_=>none
def AW(C:aO)(o:Oper)(t:TypeId)(x:aa)(i:Option Int):Option bx:=match C.P.underlying t,i,x with|some .string,some i, .val (.string s)=>if 0≤i then(s[i.toNat]?).bind fun b=>ret o (.val (.int .u8 b.toNat))else none|some (.array len e),some i, .agg cells=>(match gL C e,kK C e with|some n,some b=>if 0≤i∧i<len∧(i.toNat+1)*n≤cells.length then(jX b ((cells.drop (i.toNat*n)).take n)).map fun v=>put o v [] []else none|_,_=>none)|_,_,_=>none
def AV(o:Oper)(x:aa)(i:Nat):Option bx:=match x with| .bL vs=>(match vs[i]? with|some v=>ret o v|none=>none)|_=>none
def sg(C:aO)(o:Oper)(ts:Array TypeId)(xs:List aa):Option bx:=match xs with|[x]=>(match(ts[0]?).bind C.P.underlying with|some d=>(match Fu d x with|some n=>ret o (vi n)|none=>none)|none=>none)|_=>none
def qY(C:aO)(f:FuncId)(o:Oper)(e:bx):Option bx:=if eX C f o.dst then match o.dst,e.wr with|some d,[(id,none),(d',some rows)]=>if d'=[d]∧iC rows=true then some (put o (.sl rows) e.rd [(id,none),([d],none)])else none|some d,[(d',some rows)]=>if d'=[d]∧iC rows=true then some (put o (.sl rows) e.rd [([d],none)])else none|_,_=>none else some e
def lV(C:aO)(S:ak)(o:Oper)(ts:Array TypeId)(xs:List aa):Option bx:=match xs,ts[0]?,(ts[1]?).bind C.P.underlying with|[x,y],some t,some (.slice _)=>AF C S o t x y|[x,y],some t,some (.int _)=>AG C S o t x y|_,_,_=>none
def pathOf(C:aO):Operand→Option (Nat×Nat)| .func k=>C.path k|_=>none
def vg(S:ak)(o:Oper)(p:Nat×Nat):List aa→Option bx|[.mp id row off]=>(match S.h id with|some (some rows)=>(match(rows[row]?).bind fun r=>r[off+p.1]? with|some (.rs gv off2 len)=>(match S.h gv with|some (some e8)=>if decide (0<len)&&decide (len≤nR)&&decide (off2+len≤e8.length)&&e8.all (·.length==p.2)then some (put o (.mp gv (off2+(len-1)) 0) [id,gv] [])else none|_=>none)|_=>none)|_=>none)|[.aq cells]=>(match cells[p.1]? with|some (.sl rows)=>if decide (rows.length≤nR)&&rows.all (·.length==p.2)then(rows[rows.length-1]?).map fun r=>put o (.aq r) [] []else none|_=>none)|_=>none
def Jp:List aa→Bool|[.val _]=>true|_=>false
def xU(C:aO)(S:ak)(o:Oper)(ts:Array TypeId)(xs:List aa):Option bx:=match xs,(ts[0]?).bind C.P.underlying with|[x,y],some (.slice e)=>(match gL C e,x,rowsOf S.h y with|some 1, .rs id off len,some (ys,i2)=>(match S.h id with|some (some rows)=>if ys.all Jp&&rows.all (·.length==1)&&decide (off+len≤rows.length)then some (put o (vi ((min ys.length len:Nat):Int)) (id::i2) [(id,some (rows.take off++ys.take (min ys.length len)++rows.drop (off+min ys.length len)))])else none|_=>none)|_,_,_=>none)|_,_=>none
/-! Maps: keys and values of one cell without an address. -/
def Of:TypeDesc→Bool| .int _| .string| .bool=>true|_=>false
def vT(L:Id→Option (Option Rows)):aa→Option (Rows×List Id)| .mr id=>(match L id with|some (some rows)=>some (rows,[id])|_=>none)| .im rows=>some (rows,[])| .val (.map none)=>some ([],[])|_=>none
def pR(kind:TypeDesc)(k:Value):Rows→Option (Option Value)|[]=>some none|[.val k', .val v]::rs=>(match Instr.sameNow kind k k' with|some true=>some (some v)|some false=>pR kind k rs|none=>none)|_=>none
def zl(kind:TypeDesc)(k v:Value):Rows→Option Rows|[]=>some [[.val k, .val v]]|[.val k', .val v']::rs=>(match Instr.sameNow kind k k' with|some true=>some ([.val k, .val v]::rs)|some false=>(zl kind k v rs).map fun y=>[.val k', .val v']::y|none=>none)|_=>none
def Oa(C:aO)(t:TypeId):Option Value:=match(C.P.info? t).bind (·.zero)with|some v=>if eJ v then some v else none|none=>none
def BN(C:aO)(t:TypeId):Option (TypeDesc×Value):=match C.P.underlying t with|some (.map kt et)=>(match C.P.underlying kt,Oa C et with|some kind,some z=>if Of kind then some (kind,z)else none|_,_=>none)|_=>none
def tF(C:aO)(S:ak)(o:Oper)(t:TypeId)(r:Option Operand):Option bx:=match BN C t,o.dst with|some _,some d=>if r.isNone&&(S.h [d]).isNone then some (put o (.mr [d]) [] [([d],some [])])else none|_,_=>none
def oz(C:aO)(S:ak)(o:Oper)(t:TypeId)(x k:aa)(ok:Bool):Option bx:=match BN C t,vT S.h x,k with|some (kind,z),some (rows,ids), .val kv=>(pR kind kv rows).map fun r=>put o (if ok then .bL [.val (r.getD z), .val (.bool r.isSome)]else .val (r.getD z)) ids []|_,_,_=>none
def qT(C:aO)(S:ak)(o:Oper)(t:TypeId)(x k v:aa):Option bx:=match BN C t,x,k,v with|some (kind,_), .mr id, .val kv, .val n7=>(match S.h id with|some (some rows)=>if eJ kv&&eJ n7&&o.dst.isNone then(zl kind kv n7 rows).map fun br=>put o .bz [id] [(id,some br)]else none|_=>none)|_,_,_,_=>none
/-! Names that keep their place through a body: they end with a mark. -/
def jm:Nat:=999999
def jl:Id→Bool|[]=>false|[x]=>x==jm|_::y::l=>jl (y::l)
def sG(i q:Id):Id:=if jl i then i else if jl q then q++[0]else q
/-! What lives at a loop's head where names may be shared: the state itself, under names of its own. -/
def fT(l:List (Id×Id))(i:Id):Option Id:=match l with|[]=>none|(o,k)::l=>if o=i then some k else fT l i
def zG(l:List (Id×Id)):aa→Option aa| .rs i off len=>(fT l i).map fun k=> .rs k off len| .mp i row off=>(fT l i).map fun k=> .mp k row off| .mr i=>(fT l i).map fun k=> .mr k| .cu=>some .cu|a=>if flat a then some a else none
def Cz(l:List (Id×Id)):List aa→Option (List aa)|[]=>some []|a::as=>match zG l a,Cz l as with|some b,some bs=>some (b::bs)|_,_=>none
def rH(l:List (Id×Id)):aa→Option aa| .fn k as cs=>if cT as&&cT cs then some (.fn k as cs)else(match Cz l as,Cz l cs with|some x,some y=>some (.fn k x y)|_,_=>none)|a=>zG l a
def kR(l:List (Id×Id)):List aa→Option (List aa)|[]=>some []|a::as=>match rH l a,kR l as with|some b,some bs=>some (b::bs)|_,_=>none
def fj(l:List (Id×Id)):aa→aa| .agg cs=>(match kR l cs with|some bs=> .agg bs|none=> .bz)| .bL cs=>(match kR l cs with|some bs=> .bL bs|none=> .bz)| .fn f as cs=>(match kR l as,kR l cs with|some bs,some ds=> .fn f bs ds|_,_=> .bz)|a=>match rH l a with|some b=>b|none=> .bz
def CC(l:List (Id×Id)):Rows→Option Rows|[]=>some []|r::rs=>match kR l r,CC l rs with|some b,some bs=>some (b::bs)|_,_=>none
def mu(l:List (Id×Id))(rows:Rows):Option Rows:=if eH rows then some rows else CC l rows
def fq(L:Id→Option (Option Rows)):Nat→Id→Nat→List (Id×Id)→List aa→List (Id×Id)|0,_,_,acc,_=>acc|_,_,_,acc,[]=>acc|n+1,p,j,acc,a::as=>fq L n p (j+1) (match a with| .rs i _ _=>if(fT acc i).isSome then acc else acc++[(i,sG i (j::p))]| .mr i=>if(fT acc i).isSome then acc else acc++[(i,sG i (j::p))]| .mp i _ _=>if(fT acc i).isSome then acc else(match L i with|some (some [cs])=>fq L n (j::p) 0 (acc++[(i,sG i (j::p))]) cs|_=>acc++[(i,sG i (j::p))])| .agg cs=>fq L n (j::p) 0 acc cs| .fn _ as cs=>if cT as&&cT cs then acc else fq L n (j::p) 0 acc (as++cs)|_=>acc) as
def pZ(L:Id→Option (Option Rows))(l:List (Id×Id)):List (Id×Id)→Option (List (Id×Rows))|[]=>some []|(o,k)::r=>match L o,pZ L l r with|some (some rows),some y=>(mu l rows).map fun br=>(k,br)::y|_,_=>none
def nS(l:List (Id×Id))(t:Nat→aa):List Nat→Nat→aa|[]=>fun _=> .bz|s::r=>av (nS l t r) s (fj l (t s))
def jW:List (Id×Rows)→Id→Option (Option Rows)|[]=>fun _=>none|(k,rows)::r=>av (jW r) k (some (some rows))
def names(S:ak)(slots:List Nat):List (Id×Id):=slots.foldl (fun acc s=>fq S.h 40 [s] 0 acc [S.t s]) []
def Tf(keep:Id→Bool):aa→Bool| .rs i _ _=>keep i| .mp i _ _=>keep i| .mr i=>keep i|a=>flat a
def vQ(keep:Id→Bool)(l:List aa):Bool:=l.all (Tf keep)
def gm(L:Id→Option (Option Rows))(keep:Id→Bool):aa→Option (aa×List Id)| .rs i off len=>if keep i then some (.rs i off len,[])else pk L 8 (.rs i off len)| .mp i row off=>if keep i then some (.mp i row off,[])else pk L 8 (.mp i row off)| .mr i=>if keep i then some (.mr i,[])else pk L 8 (.mr i)| .cu=>some (.own [] 0,[])| .fn k as cs=>if vQ keep as&&vQ keep cs then some (.fn k as cs,[])else none|a=>if flat a then some (a,[])else none
def k5(L:Id→Option (Option Rows))(keep:Id→Bool)(r:List aa):Option (List aa×List Id):=if cT r then some (r,[])else dV (gm L keep) r
def uc(l:List (Id×Id))(i:Id):Bool:=(fT l i).isSome
/-! Graph calls: arguments as they stand, and the objects that they lead to. -/
def nC(C:aO):aa→Option (FuncId×List aa×List aa)| .fn (.func k) first caps=>if C.c6 k then some (k,first,caps)else none|_=>none
def eD(L:Id→Option (Option Rows)):Nat→Bool→Id→Nat→List (Id×Id)→List aa→List (Id×Id)|0,_,_,_,acc,_=>acc|_,_,_,_,acc,[]=>acc|n+1,b,p,j,acc,a::as=>eD L n b p (j+1) (match a with| .rs i _ _=>if !b||(fT acc i).isSome then acc else acc++[(i,j::p)]| .mr i=>if !b||(fT acc i).isSome then acc else acc++[(i,j::p)]| .mp i _ _=>if(fT acc i).isSome then acc else(match L i with|some (some [cs])=>eD L n false (j::p) 0 (acc++[(i,j::p)]) cs|_=>acc++[(i,j::p)])| .agg cs=>eD L n b (j::p) 0 acc cs| .fn _ as cs=>eD L n true (j::p) 0 acc (as++cs)|_=>acc) as
def ny(L:Id→Option (Option Rows))(keep:Id→Bool)(rows:Rows):Option (Rows×List Id):=if eH rows then some (rows,[])else ec (k5 L keep) rows
def hU(L:Id→Option (Option Rows))(l:List (Id×Id)):List (Id×Id)→Option (List aa×List Id)|[]=>some ([],[])|(o,k)::r=>match L o with|some (some rows)=>(ny L (uc l) rows).bind fun x=>(mu l x.1).bind fun br=>(hU L l r).map fun y=>(.dL k br::y.1,x.2++y.2)|_=>none
def iw(l':List (Id×Id)):List (Id×Id)→List aa→Option (List (Id×Option Rows))|[],[]=>some []|(o,k)::r, .dL k' rows::outs=>if k'=k then(mu l' rows).bind fun br=>(iw l' r outs).map fun y=>(o,some br)::y else none|(o,_)::r, .bz::outs=>(iw l' r outs).map fun y=>(o,none)::y|_,_=>none
structure Am where
  r : aa
  l : List (Id × Id)
  back : List (Id × Option Rows)
  gone : List Id
def Ei(call:FuncId→List aa→Option (aa×List aa))(L:Id→Option (Option Rows))(k:FuncId)(args:List aa)(l:List (Id×Id)):Option Am:=match hU L l l with|some (obs,gone)=>if eu (l.map (·.1))&&eu (l.map (·.2))&&(l.all fun x=>jl x.2)&&eu gone&&tA gone (l.map (·.1))then match call k (.bL obs::args.map (fj l))with|some (r,outs)=>(iw (l.map fun x=>(x.2,x.1)) l outs).map fun back=>⟨r,l,back,gone⟩|none=>none else none|none=>none
def si(call:FuncId→List aa→Option (aa×List aa))(L:Id→Option (Option Rows))(k:FuncId)(args:List aa):Option Am:=Ei call L k args (eD L 60 true [jm] 0 [] args)
def zK(L:Id→Option (Option Rows))(b:Id×Option Rows):Bool:=match L b.1,b.2 with|some (some [[.mp i r f]]),some [[.mp i' r' f']]=>i==i'&&r==r'&&f==f'|_,_=>false
def jF(L:Id→Option (Option Rows))(back:List (Id×Option Rows)):List (Id×Option Rows):=back.filter fun b=> !zK L b
def BA:aa→Bool| .BZ _=>true|_=>false
def qK (C : aO) (f : FuncId) (call : FuncId → List aa → Option (aa × List aa)) (S : ak) (o : Oper) (k : FuncId) (args : List aa) : Option bx :=
  (si call S.h k args).bind fun x =>
    if BA x.r then none else
    let y := imp (iy o) (fj (x.l.map fun x => (x.2, x.1)) (if eX C f o.dst then (if flat x.r then dW x.r else .bz) else x.r))
    if fresh S.h y.2 then some (put o y.1 (x.l.map (·.1)) (y.2 ++ (jF S.h x.back ++ x.gone.map fun i => (i, none)))) else none
def bF(C:aO)(f:FuncId)(call:FuncId→List aa→Option (aa×List aa))(S:ak)(g:Bool)(o:Oper):Option bx:=match o.op with| .move x=>ret o (un g (S.get C x))| .assign x=>ret o (un g (S.get C x))| .pick c a b=>vh o (un g (S.get C c)) (un (g&&mH (un g (S.get C c))) (S.get C a)) (un (g&& !mH (un g (S.get C c))) (S.get C b))| .alloc t=>qQ C f S o t| .box t x=>qR C f S o t (un g (S.get C x))| .build t parts=>ve C f o t (parts.toList.map fun p=>(p.1,un g (S.get C p.2)))| .buildSlice t len parts=>qS C f S o t len (parts.toList.map fun p=>(p.1,un g (S.get C p.2)))| .load t a=>mK C S o t (un g (S.get C a))| .store t a x=>oB C f S g o t a (un g (S.get C a)) (un g (S.get C x))| .nilCheck x=>AX o (un g (S.get C x))| .binOp op t x y _=>ox C o op t x y (un g (S.get C x)) (un g (S.get C y))| .unOp op _ x=>xV C o op (un g (S.get C x))| .convert src dst x=>xT C o src dst (un g (S.get C x))| .makeInterface t x=>HT C o t (un g (S.get C x))| .makeFunc fn first caps=>ret o (.fn fn (first.toList.map fun x=>un g (S.get C x)) (caps.toList.map fun x=>un g (S.get C x)))| .makeSlice t l c=>tE C S o t (un g (S.get C l)) (un g (S.get C c))| .slice t x lo hi mx=>if mx.isSome then none else qV C S o t (un g (S.get C x)) (lo.map fun y=>e3 (un g (S.get C y))) (hi.map fun y=>e3 (un g (S.get C y)))| .fieldAddr s x i=>se C f o s i (un g (S.get C x))| .field s x i=>HQ C o s i (un g (S.get C x))| .indexAddr t x i=>oy C S o t (un g (S.get C x)) (e3 (un g (S.get C i)))| .index t x i=>AW C o t (un g (S.get C x)) (e3 (un g (S.get C i)))| .extract x i=>AV o (un g (S.get C x)) i| .makeMap t r=>tF C S o t r| .lookup t x k ok=>oz C S o t (un g (S.get C x)) (un g (S.get C k)) ok| .mapUpdate t x k v=>qT C S o t (un g (S.get C x)) (un g (S.get C k)) (un g (S.get C v))| .insert t x k v=>qT C S o t (un g (S.get C x)) (un g (S.get C k)) (un g (S.get C v))| .call c=>(match c.callee with| .builtin .len=>sg C o c.argTypes (c.args.toList.map fun x=>un g (S.get C x))| .builtin .append=>(lV C S o c.argTypes (c.args.toList.map fun x=>un g (S.get C x))).bind (qY C f o)| .builtin .copy=>xU C S o c.argTypes (c.args.toList.map fun x=>un g (S.get C x))| .builtin .max=>(match jx (c.args.toList.map fun x=>un g (S.get C x))with|some vs=>kS o (I9 C.P c.argTypes o.type vs)|none=>none)| .builtin .min=>(match jx (c.args.toList.map fun x=>un g (S.get C x))with|some vs=>kS o (agC C.P c.argTypes o.type vs)|none=>none)| .value cF=>(match nC C (un g (S.get C cF))with|some x=>qK C f call S o x.1 (x.2.1++(c.args.toList.map fun x=>un g (S.get C x))++x.2.2)|none=>match pathOf C cF with|some p=>vg S o p (c.args.toList.map fun x=>un g (S.get C x))|none=>if zU C cF then(match cF with| .func k=>r8 C f call S o k (c.args.toList.map fun x=>un g (S.get C x))|_=>none)else qJ C f call S o (un g (S.get C cF)) (c.args.toList.map fun x=>un g (S.get C x)))|_=>none)|_=>none
/-! ## Regions -/
def sj(S:ak)(ops:Array Oper)(o:Oper):Option Bool:=match o.guard with|none=>some true|some (j,want)=>match(ops[j]?).bind (·.dst)with|some d=>(match S.t d with| .val (.bool b)=>some (b==want)| .dz g (.val (.bool b))=>some (g&&(b==want))| .dz false _=>some false|_=>none)|none=>none
def BB(o:Oper):bx:=put o (.dz false .bz) [] []
def vf(C:aO)(f:FuncId)(call:FuncId→List aa→Option (aa×List aa))(S:ak)(ops:Array Oper)(o:Oper):Option bx:=match sj S ops o with|none=>none|some g=>match o.guard with|none=>bF C f call S true o|some _=>match bF C f call S g o with|some e=>if e.wr.isEmpty then some {e with ep:=e.ep.map fun x=>(x.1, .dz g x.2)}else if g then some e else some (BB o)|none=>if g then none else some (BB o)
abbrev iG:=Nat×List Id×List Id
def hkey(i:Nat)(e:bx)(l:List iG):List iG:=if e.rd.isEmpty&&e.wr.isEmpty then l else(i,e.rd,e.wr.map (·.1))::l
def oA(C:aO)(f:FuncId)(call:FuncId→List aa→Option (aa×List aa))(ops:Array Oper):Nat→List Oper→ak→Option (ak×List iG)|_,[],S=>some (S,[])|i,o::l,S=>(vf C f call S ops o).bind fun e=>if e.ep.all fun x=>decide (x.1<S.n)then(oA C f call ops (i+1) l (S.app e)).map fun x=>(x.1,hkey i e x.2)else none
def rJ(C:aO)(f:FuncId)(o:Oper):List Nat:=o.dst.toList++(match o.op with| .store _ a _=>(xZ C f a).toList|_=>[])
def slotsOf(ops:Array Oper)(o:Oper):List Nat:=(o.op.operands.toList.filterMap fun| .tmp t=>some t|_=>none)++(match o.guard with|some (j,_)=>(match(ops[j]?).bind (·.dst)with|some d=>[d]|none=>[])|none=>[])
def DA(C:aO)(f:FuncId)(ops:Array Oper)(oi oj:Oper):Bool:=((rJ C f oi).all fun x=> !(slotsOf ops oj).contains x&& !(rJ C f oj).contains x)&&((rJ C f oj).all fun y=> !(slotsOf ops oi).contains y)
def Fy(a s:List Nat):List Nat:=a.foldl (fun s x=>if s.contains x then s else x::s) s
def Hx(ops:Array Oper):List (List Nat):=ops.toList.foldl (init:=[]) fun acc o=>acc++[o.after.toList.foldl (init:=[]) fun s e=>if Region.binds .any e then(if s.contains e.on then s else e.on::Fy (acc.getD e.on []) s)else s]
def CQ (C : aO) (f : FuncId) (id : Nat) (ops : Array Oper) : Bool :=
  let b := Hx ops
  let l := ops.toList.zipIdx
  Region.noSelect ops && (l.all fun x => l.all fun y => if x.2 < y.2 then (b.getD y.2 []).contains x.2 || DA C f ops x.1 y.1 else true) &&
  (l.all fun x => x.1.after.all fun e => !Region.binds .any e || decide (e.on < x.2)) && (C.gW f id).all fun p => (b.getD p.2 []).contains p.1
def tB(a b:iG):Bool:=(a.2.2.all fun x=> !b.2.1.contains x&& !b.2.2.contains x)&&(b.2.2.all fun x=> !a.2.1.contains x)
def oL(gW:List (Nat×Nat)):List iG→Bool|[]=>true|x::l=>(l.all fun y=>gW.contains (x.1,y.1)||tB x y)&&oL gW l
def pQ(C:aO)(f:FuncId)(call:FuncId→List aa→Option (aa×List aa))(id:Nat)(ops:Array Oper)(draw:Bool)(S:ak):Option ak:=(oA C f call ops 0 ops.toList S).bind fun x=>if draw then(if oL (C.gW f id) x.2 then some x.1 else none)else some x.1
/-! ## Code -/
def mL:Code→Option Nat| .region id _ _=>some id| .seq a b=>(match mL a with|some i=>some i|none=>mL b)| .cond _ a b=>(match mL a with|some i=>some i|none=>mL b)| .block _ c=>mL c| .loop c=>mL c| .scope c=>mL c|_=>none
def js(L:Id→Option (Option Rows))(t:Nat→aa):List Nat→Option (List aa×List Id)|[]=>some ([],[])|s::l=>(pk L 9 (t s)).bind fun x=>(js L t l).map fun y=>(x.1::y.1,x.2++y.2)
def iW(S:ak)(slots:List Nat):Option (List aa):=match js S.h S.t slots with|some (cg,ids)=>if eu ids then some cg else none|none=>none
def aH (n : Nat) : List Nat → List aa → ak
  | s :: l, v :: vs =>
    let S := aH n l vs
    { n, t := av S.t s (imp [s] v).1, h := bw S.h (imp [s] v).2 }
  | _, _ => { n, t := fun _ => .bz, h := fun _ => none }
def qL(keep:Id→Bool)(S:ak)(o:Id):Option ak:=match S.h o with|some (some rows)=>if eH rows then some S else(match ec (k5 S.h keep) rows with|some (br,ids)=>if eu ids&& !ids.contains o then some ⟨S.n,S.t,bw S.h ((o,some br)::ids.map fun i=>(i,none))⟩else none|none=>none)|_=>none
def jd(keep:Id→Bool):List Id→ak→Option ak|[],S=>some S|o::l,S=>(qL keep S o).bind (jd keep l)
def rz(S:ak)(s:Nat):ak:=match S.t s,S.h [s,s]with| .cu,none=>⟨S.n,av S.t s (.rs [s,s] 0 0),av S.h [s,s] (some (some []))⟩|_,_=>S
def jY:List Nat→ak→ak|[],S=>S|s::l,S=>jY l (rz S s)
def ug(l:List (Id×Id))(slots:List Nat)(S:ak):Option ak:=if eu (l.map (·.1))&&eu (l.map (·.2))&&l.all (fun x=> !jl x.2||x.1==x.2)then(pZ S.h l l).map fun hl=>⟨S.n,nS l S.t slots,jW hl⟩else none
def FD(S:ak)(slots:List Nat)(l:List (Id×Id)):Option ak:=(jd (uc l) (l.map (·.1)) S).bind (ug l slots)
def norm(S:ak)(slots:List Nat):Option ak:=FD (jY slots S) slots (names (jY slots S) slots)
def ej(o:Option (Bool×List Nat))(S:ak):Option ak:=match o with|none=>some S|some (true,l)=>norm S l|some (false,l)=>(iW S l).map (aH S.n l)
def o6(C:aO)(f:FuncId)(b:Code):Option (Bool×List Nat):=match mL b with|some i=>C.HL f i|none=>none
def pT(S:ak)(s:Nat):Option ak:=match pk S.h 9 (S.t s)with|some (v,ids)=>if eu ids then some ⟨S.n,av S.t s (dW v),bw S.h (ids.map fun i=>(i,none))⟩else none|none=>none
def pS(S:ak)(s:Nat):Option ak:=match S.t s with| .mp id 0 0=>(match S.h id with|some (some [cells])=>if ek cells then some ⟨S.n,av S.t s (.aq cells),av S.h id (some none)⟩else none|_=>none)| .rs _ _ _=>pT S s| .cu=>pT S s| .mr _=>pT S s|_=>none
def ld:List Nat→ak→Option ak|[],S=>some S|s::l,S=>(pS S s).bind (ld l)
def uh(p:Nat)(S:ak)(s:Nat):Option ak:=match S.t s with| .mp id _ _=>(match S.h id with|some (some [r])=>if(bQ [p,s] 0 r).2.isEmpty then some S else if s<S.n∧fresh S.h (bQ [p,s] 0 r).2=true then some ⟨S.n,S.t,bw S.h ((id,some [(bQ [p,s] 0 r).1])::(bQ [p,s] 0 r).2)⟩else none|_=>none)|_=>none
def m8(p:Nat):List Nat→ak→Option ak|[],S=>some S|s::l,S=>(uh p S s).bind (m8 p l)
def pO(C:aO)(f:FuncId)(id:Nat)(S:ak):Option ak:=(m8 (1000+id) (C.j4 f id) S).bind fun bY=>(ld (C.kH f id) bY).bind (ej (C.jH f id))
abbrev ta:=(α:Type)→(α→Option (Exit×ak))→(ak→Option α)→α→Option (Exit×ak)
def hH{α:Type}(g:α→Option (Exit×ak))(rn:ak→Option α):Nat→α→Option (Exit×ak)|0,_=>none|n+1,cg=>(g cg).bind fun x=>match x.1 with| .normal=>(rn x.2).bind (hH g rn n)|_=>some x
/-! A range over a function: each round begins with the slots of the loop's entry, and with what has been yielded. -/
def uk(t:Nat→aa):List (Nat×aa)→Nat→aa|[]=>t|(p,v)::l=>uk (av t p v) l
def Gj(S:ak)(ps:List Nat)(y:List aa):Option ak:=if ps.length=y.length∧(ps.all fun p=>decide (p<S.n))=true then some ⟨S.n,uk S.t (ps.zip y),S.h⟩else none
def qU(g:ak→Option (Exit×ak))(rn:ak→Option ak)(ps:List Nat):List (List aa)→ak→Option (Exit×ak)|[],S=>some (.normal,S)|y::ys,S=>(Gj S ps y).bind fun bY=>(g bY).bind fun x=>(rn x.2).bind fun dP=>match x.1 with| .normal=>qU g rn ps ys dP| .ret=>some (.ret,dP)| .exit i=>some (.exit i,dP)|_=>none
def UH(assign body:Code):Option Nat:=match mL assign with|some i=>some i|none=>mL body
def zo(C:aO)(f:FuncId)(assign body:Code):List Nat:=match UH assign body with|some i=>C.live f i|none=>[]
def zn(C:aO)(f:FuncId)(assign body:Code):Option (Bool×List Nat):=some (match UH assign body with|some i=>C.shr f i|none=>false,zo C f assign body)
def B1 (C : aO) (x : aa) : Option (List (List aa)) := match x with
  | .fn (.func k) [] caps => if ek caps then (C.iter k).bind (· caps) else none
  | _ => none
def cM (C : aO) (f : FuncId) (call : FuncId → List aa → Option (aa × List aa)) (cz : ta) : Code → ak → Option (Exit × ak)
  | .skip, S => some (.normal, S)
  | .label _, S => some (.normal, S)
  | .exit id, S => some (.exit id, S)
  | .ret, S => some (.ret, S)
  | .region id ops draw, S => ((ld (C.mN f id) S).bind fun gO => (pQ C f call id ops draw gO).bind (pO C f id)).map fun S' => (.normal, S')
  | .seq a b, S => (cM C f call cz a S).bind fun x => match x.1 with
    | .normal => (ej (o6 C f b) x.2).bind (cM C f call cz b)
    | _ => some x
  | .cond c a b, S => match un true (S.get C c) with
    | .val (.bool t) => if t then cM C f call cz a S else cM C f call cz b S
    | _ => none
  | .block id c, S => (cM C f call cz c S).bind fun x => match (match x.1 with | .exit i => if i = id then .normal else .exit i | e => e : Exit) with
    | .normal => (ej (C.pN f id) x.2).map fun S' => (.normal, S')
    | e => some (e, x.2)
  | .loop c, S =>
    let slots := match mL c with | some i => C.live f i | none => []
    if (match mL c with | some i => C.shr f i | none => false) then
      (norm S slots).bind fun bY => cz ak (fun S' => cM C f call cz c S') (fun S' => norm S' slots) bY
    else (iW S slots).bind fun cg => cz (List aa) (fun cg => cM C f call cz c (aH S.n slots cg)) (fun S' => iW S' slots) cg
  | .rangeFunc g ps assign body, S => (B1 C (un true (S.get C g))).bind fun ys => (ej (zn C f assign body) S).bind
      (qU (fun bY => (cM C f call cz assign bY).bind fun x => match x.1 with | .normal => cM C f call cz body x.2 | _ => none) (ej (zn C f assign body)) ps.toList ys)
  | _, _ => none
/-! ## Functions -/
def wI(C:aO)(S:ak):ResultVar→Option (aa×List Id)| .tmp t=>pk S.h 9 (un true (S.t t))| .cell a ty=>match kK C ty,gL C ty,un true (S.t a)with|some b,some n, .aq cells=>if n≤cells.length then((jX b (cells.take n)).bind (pk S.h 9))else none|some b,some n, .mp id row off=>(match S.h id with|some (some rows)=>(match rows[row]? with|some r=>if off+n≤r.length then((jX b ((r.drop off).take n)).bind (pk S.h 9)).map fun x=>(x.1,id::x.2)else none|none=>none)|_=>none)|_,_,_=>none
def kq(C:aO)(S:ak):List ResultVar→Option (List aa×List Id)|[]=>some ([],[])|r::l=>(wI C S r).bind fun x=>(kq C S l).map fun y=>(x.1::y.1,x.2++y.2)
def finish(C:aO)(fn:Func)(cw:List Nat)(_args:List aa)(S:ak):Option (aa×List aa):=match kq C S fn.results.toList,js S.h S.t cw with|some (rs,i1),some (outs,i2)=>if eu (i1++i2)then some (match rs with|[r]=>r|_=> .bL rs,outs)else none|_,_=>none
/-! At the end of a call whose objects keep their places. -/
def ot(L:Id→Option (Option Rows))(keep:Id→Bool):aa→Option (aa×List Id)| .agg cs=>(dV (gm L keep) cs).map fun x=>(.agg x.1,x.2)|a=>gm L keep a
def wJ(C:aO)(S:ak)(p:aa→Option (aa×List Id)):ResultVar→Option (aa×List Id)| .tmp t=>p (un true (S.t t))| .cell a ty=>match kK C ty,gL C ty,un true (S.t a)with|some b,some n, .aq cells=>if n≤cells.length then((jX b (cells.take n)).bind p)else none|some b,some n, .mp id row off=>(match S.h id with|some (some rows)=>(match rows[row]? with|some r=>if off+n≤r.length then((jX b ((r.drop off).take n)).bind p).map fun x=>(x.1,id::x.2)else none|none=>none)|_=>none)|_,_,_=>none
def mw(C:aO)(S:ak)(p:aa→Option (aa×List Id)):List ResultVar→Option (List aa×List Id)|[]=>some ([],[])|r::l=>(wJ C S p r).bind fun x=>(mw C S p l).map fun y=>(x.1::y.1,x.2++y.2)
def mY:Option (Option Rows)→Bool|some (some _)=>true|_=>false
def lF(L:Id→Option (Option Rows))(keep:Id→Bool):List Id→Option (List aa×List Id)|[]=>some ([],[])|k::r=>match L k with|some (some rows)=>(ny L keep rows).bind fun x=>(lF L keep r).map fun y=>(.dL k x.1::y.1,x.2++y.2)|_=>(lF L keep r).map fun y=>(.bz::y.1,y.2)
def ry(ids:List Id)(S:ak):ak:=⟨S.n,S.t,bw S.h (ids.map fun i=>(i,none))⟩
def xX (C : aO) (fn : Func) (ks : List Id) (S : ak) : Option (aa × List aa) :=
  let al := ks.filter fun k => mY (S.h k)
  let keep : Id → Bool := fun i => al.contains i
  match mw C S (ot S.h keep) fn.results.toList, lF S.h keep ks with
  | some (rs, i1), some (outs, i2) => if eu (al ++ (i1 ++ i2)) then some (match rs with | [r] => r | _ => .bL rs, outs) else none
  | _, _ => none
def rB:List aa→Option (List (Id×Rows))|[]=>some []| .dL i rows::l=>(rB l).map ((i,rows)::·)|_::_=>none
def GB(n:Nat)(ps:List aa)(hl:List (Id×Rows)):ak:=⟨n,fun t=>ps.getD t .bz,jW hl⟩
def HS(C:aO)(call:FuncId→List aa→Option (aa×List aa))(cz:ta)(f:FuncId)(fn:Func)(c:Code):List aa→Option (aa×List aa)| .bL obs::ps=>(match rB obs with|some hl=>if ps.length≤fn.ntmps∧fn.ntmps≤jm then((m8 jm (C.j4 f jm) (GB fn.ntmps ps hl)).bind (cM C f call cz c)).bind fun x=>match x.1 with| .normal=>xX C fn (hl.map (·.1)) (ry (C.u9 f) x.2)| .ret=>xX C fn (hl.map (·.1)) (ry (C.u9 f) x.2)|_=>none else none|none=>none)|_=>none
def vc(C:aO)(call:FuncId→List aa→Option (aa×List aa))(cz:ta)(f:FuncId)(args:List aa):Option (aa×List aa):=match C.ext f with|some g=>g args|none=>match C.P.funcs[f]? with|some fn=>(match fn.body with|some c=>if C.c6 f then HS C call cz f fn c args else if args.length≤fn.ntmps then(cM C f call cz c (aH fn.ntmps (List.range args.length) args)).bind fun x=>match x.1 with| .normal=>finish C fn (C.cw f) args x.2| .ret=>finish C fn (C.cw f) args x.2|_=>none else none|none=>none)|none=>none
end Go.Ab
