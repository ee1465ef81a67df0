import Derived.Test.YtmboghefgckkpaaGreatAbEqS
namespace Go.Ab
open Go
inductive aop where|nil|code(n:Int)|other deriving DecidableEq,Inhabited
def lC:Option Int→aa|none=> .val (.pointer none)|some n=> .ax [.val (.int .i64 n)]
def j0(o:Option Int):List aa:=[lC o]
/-! ### Facts about the program's types, found by their numbers -/
class ff(C:aU)(t:TypeId)(d:outParam TypeDesc):Prop where ul:C.P.underlying t=some d
class dO(C:aU)(t:TypeId)(b:outParam Bool)(n:outParam Nat):Prop where
 l9:lP C t=some b
 sz:iy C t=some n
class Fd(C:aU)(t i:Nat)(off n:outParam Nat)(b:outParam Bool):Prop where fd:Fi C t i=some (off,n,b)
class lK(C:aU)(t:TypeId)(cs:outParam (List aa)):Prop where gA:A0 C t=some cs
class lM(C:aU)(t:TypeId)(cs:outParam (List aa)):Prop where PV:A1 C t=some cs
class Pl(C:aU)(t:TypeId)(pl:outParam (List (Nat×Nat×Bool))):Prop where pl:OO C t=some pl
def EH(C:aU)(e:TypeId)(m:Nat):Bool:=match C.P.info? e with|some i=>i.size==m&&decide (0<m)&&decide (i.bytes≤4096)&&Ip i|none=>false
class rT(C:aU)(e:TypeId)(m:outParam Nat):Prop where ao:EH C e m=true
class jF{α:Type}(c:α→List aa):Prop where di:∀x,de (c x)=true
class rW{α:Type}(c:α→List aa):Prop where
 im:∀x,eJ (c x)=true
 ce:∀x,(c x).all aa.cell=true
class Iv{α:Type}(c:α→List aa)(c':outParam (α→List aa)):Prop where eC:∀x,kN (c x)=c' x
class aor{α:Type}(c:α→List aa):Prop where mi:∀x,nx (c x)=true
section
variable{g g' h k:Bool}{x:aa}
theorem D8{e:Option Int}:un g (lC e)=lC e:=by cases e<;>cases g<;>rfl
theorem anV{p:Bool}:un (true&&p) (.dM (p==true) x)=x:=by cases p<;>rfl
theorem anW{p:Bool}:un (true&& !p) (.dM (p==false) x)=x:=by cases p<;>rfl
theorem anX{p:Bool}:un (g&&p) (.dM (g&&(p==true)) x)=x:=by cases p<;>cases g<;>rfl
theorem anY{p:Bool}:un (g&& !p) (.dM (g&&(p==false)) x)=x:=by cases p<;>cases g<;>rfl
end
theorem cm{a b:aa}(h:a=b:=by first|exact Xi _|exact anU|exact D8|exact atc|exact anV|exact anW|exact anX|exact anY|exact as1|exact as2|exact as5|exact as3|exact as4):a=b:=h
theorem gt{a b:aa}(h:a=b:=by first|exact(rfl:_=aa.val _)|exact(rfl:_=aa.sl _)|exact(rfl:_=aa.rs _ _ _)|exact(rfl:_=aa.mp _ _ _)|exact(rfl:_=aa.ax _)|exact(rfl:_=aa.agg _)|exact(rfl:_=aa.cE)|exact(rfl:_=aa.bG _)|exact(rfl:_=aa.fn _ _ _)|exact anU|exact D8|exact(rfl:_=aa.nn)|exact(rfl:_=aa.mr _)|exact(rfl:_=aa.im _)|exact(rfl:_=aa.eO _)|exact cm):a=b:=h
theorem am5{α:Type}{a:α}{l t t':List α}(h:l=a::t)(k:t=t'):l=a::t':=by rw[h,k]
theorem am6{α:Type}{l:List α}(h:l=[]:=by exact rfl):l=[]:=h
theorem spine{α:Type}{a b:List α}(h:a=b:=by repeat(first|exact am6|apply am5 rfl)):a=b:=h
theorem Uk{α:Type}{o:Option α}(h:o=none):o.isNone=true:=by rw[h];rfl
section
variable{C:aU}{f:FuncId}{call:hM}{S:an}{g:Bool}
variable{d:Nat}{ty:TypeId}{pos:String}{bn:Array Edge}{bP:Option (Nat×Bool)}{v v':aa}
variable{x y z:Operand}{k:IntKind}{a b:Int}{T dY:TypeId}
theorem U(h:un g (S.get C x)=v:=by exact gt):bN C f call S g ⟨some d, .move x,ty,pos,bn,bP⟩=some ⟨[(d,v)],[],[]⟩:=by subst h;rfl
theorem ag(h:un g (S.get C x)=v:=by exact gt):bN C f call S g ⟨some d, .assign x,ty,pos,bn,bP⟩=some ⟨[(d,v)],[],[]⟩:=by subst h;rfl
theorem Cy{op:BinOp}{Q3 Q4:aa}{jC uM ow:Value}(hx:un g (S.get C x)=Q3)(hy:un g (S.get C y)=Q4)(h1:o9 Q3=some jC)(h2:o9 Q4=some uM)(hb:eZ C.P op T x y jC uM=some ow)(hs:e4 ow=true):bN C f call S g ⟨some d, .binOp op T x y dY,ty,pos,bn,bP⟩=some ⟨[(d, .val ow)],[],[]⟩:=by show tv C _ op T x y (un g (S.get C x)) (un g (S.get C y))=_;rw[hx,hy];simp[tv,h1,h2,hb,hs]
theorem o5{op:BinOp}{ow:Value}(hb:eZ C.P op T x y (.int k a) (.int k b)=some ow)(hs:e4 ow=true)(hx:un g (S.get C x)= .val (.int k a))(hy:un g (S.get C y)= .val (.int k b)):bN C f call S g ⟨some d, .binOp op T x y dY,ty,pos,bn,bP⟩=some ⟨[(d, .val ow)],[],[]⟩:=Cy hx hy rfl rfl hb hs
theorem dj(hx:un g (S.get C x)= .val (.int k a):=by first|exact rfl|exact cm)(hy:un g (S.get C y)= .val (.int k b):=by first|exact rfl|exact cm):bN C f call S g ⟨some d, .binOp .add T x y dY,ty,pos,bn,bP⟩=some ⟨[(d, .val (.int k (k.wrap (a+b))))],[],[]⟩:=o5 abC rfl hx hy
theorem eK(hx:un g (S.get C x)= .val (.int k a):=by first|exact rfl|exact cm)(hy:un g (S.get C y)= .val (.int k b):=by first|exact rfl|exact cm):bN C f call S g ⟨some d, .binOp .sub T x y dY,ty,pos,bn,bP⟩=some ⟨[(d, .val (.int k (k.wrap (a-b))))],[],[]⟩:=o5 abQ rfl hx hy
theorem Vi(hx:un g (S.get C x)= .val (.int k a):=by first|exact rfl|exact cm)(hy:un g (S.get C y)= .val (.int k b):=by first|exact rfl|exact cm):bN C f call S g ⟨some d, .binOp .mul T x y dY,ty,pos,bn,bP⟩=some ⟨[(d, .val (.int k (k.wrap (a*b))))],[],[]⟩:=o5 abK rfl hx hy
theorem aq(hx:un g (S.get C x)= .val (.int k a):=by first|exact rfl|exact cm)(hy:un g (S.get C y)= .val (.int k b):=by first|exact rfl|exact cm):bN C f call S g ⟨some d, .binOp .eql T x y dY,ty,pos,bn,bP⟩=some ⟨[(d, .val (.bool (a==b)))],[],[]⟩:=o5 abD rfl hx hy
theorem eN(hx:un g (S.get C x)= .val (.int k a):=by first|exact rfl|exact cm)(hy:un g (S.get C y)= .val (.int k b):=by first|exact rfl|exact cm):bN C f call S g ⟨some d, .binOp .neq T x y dY,ty,pos,bn,bP⟩=some ⟨[(d, .val (.bool (a !=b)))],[],[]⟩:=o5 abL rfl hx hy
theorem dB(hx:un g (S.get C x)= .val (.int k a):=by first|exact rfl|exact cm)(hy:un g (S.get C y)= .val (.int k b):=by first|exact rfl|exact cm):bN C f call S g ⟨some d, .binOp .lss T x y dY,ty,pos,bn,bP⟩=some ⟨[(d, .val (.bool (decide (a<b))))],[],[]⟩:=o5 abJ rfl hx hy
theorem lB(hx:un g (S.get C x)= .val (.int k a):=by first|exact rfl|exact cm)(hy:un g (S.get C y)= .val (.int k b):=by first|exact rfl|exact cm):bN C f call S g ⟨some d, .binOp .leq T x y dY,ty,pos,bn,bP⟩=some ⟨[(d, .val (.bool (decide (a≤b))))],[],[]⟩:=o5 abI rfl hx hy
theorem ij(hx:un g (S.get C x)= .val (.int k a):=by first|exact rfl|exact cm)(hy:un g (S.get C y)= .val (.int k b):=by first|exact rfl|exact cm):bN C f call S g ⟨some d, .binOp .gtr T x y dY,ty,pos,bn,bP⟩=some ⟨[(d, .val (.bool (decide (b<a))))],[],[]⟩:=o5 abH rfl hx hy
theorem jd(hx:un g (S.get C x)= .val (.int k a):=by first|exact rfl|exact cm)(hy:un g (S.get C y)= .val (.int k b):=by first|exact rfl|exact cm):bN C f call S g ⟨some d, .binOp .geq T x y dY,ty,pos,bn,bP⟩=some ⟨[(d, .val (.bool (decide (b≤a))))],[],[]⟩:=o5 abG rfl hx hy
theorem abE{P:Program}{a b:ByteArray}:eZ P .eql T x y (.string a) (.string b)=some (.bool (a.toList==b.toList)):=by simp[eZ,eqGuard,binOp,Op.stringOp,dV,bind,Sem.bind,pure]
theorem abM{P:Program}{a b:ByteArray}:eZ P .neq T x y (.string a) (.string b)=some (.bool (a.toList !=b.toList)):=by simp[eZ,eqGuard,binOp,Op.stringOp,dV,bind,Sem.bind,pure,bne]
theorem cl{a b:ByteArray}(hx:un g (S.get C x)= .val (.string a):=by first|exact rfl|exact cm)(hy:un g (S.get C y)= .val (.string b):=by first|exact rfl|exact cm):bN C f call S g ⟨some d, .binOp .eql T x y dY,ty,pos,bn,bP⟩=some ⟨[(d, .val (.bool (a.toList==b.toList)))],[],[]⟩:=Cy hx hy rfl rfl abE rfl
theorem GI{a b:ByteArray}(hx:un g (S.get C x)= .val (.string a):=by first|exact rfl|exact cm)(hy:un g (S.get C y)= .val (.string b):=by first|exact rfl|exact cm):bN C f call S g ⟨some d, .binOp .neq T x y dY,ty,pos,bn,bP⟩=some ⟨[(d, .val (.bool (a.toList !=b.toList)))],[],[]⟩:=Cy hx hy rfl rfl abM rfl
theorem rC{op:BinOp}{xs ys:List aa}{vx vy:List Value}{q:Bool}(hb:eZ C.P op T x y (.agg ⟨vx⟩) (.agg ⟨vy⟩)=some (.bool q))(hx:un g (S.get C x)= .agg xs:=by first|exact rfl|exact cm)(hy:un g (S.get C y)= .agg ys:=by first|exact rfl|exact cm)(h1:kD xs=some vx:=by exact rfl)(h2:kD ys=some vy:=by exact rfl):bN C f call S g ⟨some d, .binOp op T x y dY,ty,pos,bn,bP⟩=some ⟨[(d, .val (.bool q))],[],[]⟩:=Cy hx hy (by simp[o9,h1]) (by simp[o9,h2]) hb rfl
theorem fK{p:Bool}(hx:un g (S.get C x)= .val (.bool p):=by first|exact rfl|exact cm):bN C f call S g ⟨some d, .unOp .not T x,ty,pos,bn,bP⟩=some ⟨[(d, .val (.bool !p))],[],[]⟩:=by show yP C _ .not (un g (S.get C x))=_;rw[hx];rfl
theorem Vp{op:UnOp}{jC ow:Value}(hb:D9 C.P op jC=some ow)(hs:e4 ow=true)(hx:un g (S.get C x)= .val jC:=by first|exact rfl|exact cm):bN C f call S g ⟨some d, .unOp op T x,ty,pos,bn,bP⟩=some ⟨[(d, .val ow)],[],[]⟩:=by show yP C _ op (un g (S.get C x))=_;rw[hx];simp[hb,hs]
theorem ajO{jC ow:Value}(hb:I5 C.P T dY jC=some ow)(hx:un g (S.get C x)= .val jC:=by first|exact rfl|exact cm)(hs:e4 ow=true:=by exact rfl)(hnb:Bp C T dY=false:=by first|rfl|decide):bN C f call S g ⟨some d, .convert T dY x,ty,pos,bn,bP⟩=some ⟨[(d, .val ow)],[],[]⟩:=by show yN C _ T dY (un g (S.get C x))=_;rw[hx,ad7 hnb];simp[hb,hs]
theorem aX{p q r:Bool}(hx:un g (S.get C x)= .val (.bool p):=by first|exact rfl|exact cm)(hy:un (g&&p) (S.get C y)= .val (.bool q):=by first|exact rfl|exact cm)(hz:un (g&& !p) (S.get C z)= .val (.bool r):=by first|exact rfl|exact cm):bN C f call S g ⟨some d, .pick x y z,ty,pos,bn,bP⟩=some ⟨[(d, .val (.bool (if p then q else r)))],[],[]⟩:=by show wQ _ (un g (S.get C x)) (un (g&&nK (un g (S.get C x))) (S.get C y)) (un (g&& !nK (un g (S.get C x))) (S.get C z))=_;rw[hx];simp only[nK];rw[hy,hz];rfl
theorem cI{q:Bool}(hx:un g (S.get C x)= .val (.bool true):=by exact rfl)(hy:un (g&&true) (S.get C y)= .val (.bool q):=by first|exact rfl|exact cm):bN C f call S g ⟨some d, .pick x y z,ty,pos,bn,bP⟩=some ⟨[(d, .val (.bool q))],[],[]⟩:=by show wQ _ (un g (S.get C x)) (un (g&&nK (un g (S.get C x))) (S.get C y)) (un (g&& !nK (un g (S.get C x))) (S.get C z))=_;rw[hx];simp only[nK];rw[hy];generalize un (g&& !true) (S.get C z)=w;cases w with|val v=>(cases v<;>rfl)|_=>rfl
theorem cj{q:Bool}(hx:un g (S.get C x)= .val (.bool false):=by exact rfl)(hz:un (g&&true) (S.get C z)= .val (.bool q):=by first|exact rfl|exact cm):bN C f call S g ⟨some d, .pick x y z,ty,pos,bn,bP⟩=some ⟨[(d, .val (.bool q))],[],[]⟩:=by show wQ _ (un g (S.get C x)) (un (g&&nK (un g (S.get C x))) (S.get C y)) (un (g&& !nK (un g (S.get C x))) (S.get C z))=_;rw[hx];simp only[nK,Bool.not_false];rw[hz];generalize un (g&&false) (S.get C y)=w;cases w with|val v=>(cases v<;>rfl)|_=>rfl
/-! ### Memory that does not change -/
theorem ep{bb:Bool}{m:Nat}{cs cs':List aa}[ha:dO C T bb m](hin:(C.e7 f).contains d=true:=by exact rfl)(hx:un g (S.get C x)=v:=by exact gt)(hc:pS bb v=some cs:=by exact rfl)(hz:lW cs=cs':=by exact spine)(hi:eJ cs'=true:=by exact rfl):bN C f call S g ⟨some d, .box T x,ty,pos,bn,bP⟩=some ⟨[(d, .ax cs')],[],[]⟩:=by show si C f S _ T (un g (S.get C x))=_;simp only[si,ha.l9,hx,hc,fc,hin,hz,hi,Bool.and_self,if_true];rfl
theorem ah{m:Nat}{cells cs:List aa}[ha:dO C T false m](hx:un g (S.get C x)= .ax cells:=by first|exact rfl|exact cm)(hm:m=1:=by exact rfl)(hv:cells=v::cs:=by exact rfl):bN C f call S g ⟨some d, .load T x,ty,pos,bn,bP⟩=some ⟨[(d,v)],[],[]⟩:=by show nN C S _ T (un g (S.get C x))=_;subst hm hv;simp[nN,ha.l9,ha.sz,hx,kS]
theorem bl{m:Nat}{cells cs:List aa}[ha:dO C T true m](hx:un g (S.get C x)= .ax cells:=by first|exact rfl|exact cm)(hl:Nat.ble m cells.length=true:=by exact rfl)(hv:cells.take m=cs:=by exact spine):bN C f call S g ⟨some d, .load T x,ty,pos,bn,bP⟩=some ⟨[(d, .agg cs)],[],[]⟩:=by show nN C S _ T (un g (S.get C x))=_;have hl':m≤cells.length:=Nat.le_of_ble_eq_true hl;simp[nN,ha.l9,ha.sz,hx,hl',hv,kS]
theorem ai{i off m:Nat}{bb:Bool}{cells:List aa}[hf:Fd C T i off m bb](hx:un g (S.get C x)= .ax cells:=by first|exact rfl|exact cm)(h0:Nat.blt 0 m=true:=by exact rfl)(hl:Nat.ble off cells.length=true:=by exact rfl)(hz:(C.e7 f).contains d=false:=by exact rfl):bN C f call S g ⟨some d, .fieldAddr T x i,ty,pos,bn,bP⟩=some ⟨[(d, .ax (cells.drop off))],[],[]⟩:=by show tw C f _ T i (un g (S.get C x))=_;have hl':off≤cells.length:=Nat.le_of_ble_eq_true hl;have yX:0<m:=of_decide_eq_true (m4 h0);simp only[tw,hf.fd,hx,fc,hz];rw[if_pos ⟨yX,hl'⟩];rfl
theorem ajQ{i off m:Nat}{bb:Bool}{cells cs:List aa}[hf:Fd C T i off m bb](hx:un g (S.get C x)= .ax cells:=by first|exact rfl|exact cm)(h0:Nat.blt 0 m=true:=by exact rfl)(hl:Nat.ble (off+m) cells.length=true:=by exact rfl)(hz:(C.e7 f).contains d=true:=by exact rfl)(hc:(cells.drop off).take m=cs:=by exact spine):bN C f call S g ⟨some d, .fieldAddr T x i,ty,pos,bn,bP⟩=some ⟨[(d, .ax cs)],[],[]⟩:=by show tw C f _ T i (un g (S.get C x))=_;have hl':off+m≤cells.length:=Nat.le_of_ble_eq_true hl;have yX:0<m:=of_decide_eq_true (m4 h0);simp only[tw,hf.fd,hx,fc,hz,if_true];rw[if_pos ⟨yX,by omega⟩,if_pos hl',hc];rfl
theorem aR{e:TypeId}{m:Nat}{bb:Bool}{α:Type}{c:α→List aa}{q:List α}{i:Int}{r:α}(hi:idx q i=some r)[hu:ff C T (.slice e)][hs:dO C e bb m](hx:un g (S.get C x)= .sl (q.map c):=by first|exact rfl|exact cm)(hy:un g (S.get C y)= .val (.int k i):=by first|exact rfl|exact cm)(h0:Nat.blt 0 m=true:=by exact rfl)(hr:(c r).length=m:=by exact rfl):bN C f call S g ⟨some d, .indexAddr T x y,ty,pos,bn,bP⟩=some ⟨[(d, .ax (c r))],[],[]⟩:=by show pW C S _ T (un g (S.get C x)) (fl (un g (S.get C y)))=_;have yX:0<m:=of_decide_eq_true (m4 h0);have h1:=Gh (c:=c) hi;unfold idx at h1;split at h1;·{rename_i hp;simp only[hx,hy,fl,pW,hu.ul,hs.sz,if_pos hp,h1,Option.bind_some];simp[hr,yX]};·cases h1
def qw(s:ByteArray)(i:Int):Option UInt8:=if 0≤i then s[i.toNat]? else none
theorem Ct{s:ByteArray}{i:Int}{r:UInt8}(hi:qw s i=some r)[hu:ff C T .string](hx:un g (S.get C x)= .val (.string s):=by first|exact rfl|exact cm)(hy:un g (S.get C y)= .val (.int k i):=by first|exact rfl|exact cm):bN C f call S g ⟨some d, .index T x y,ty,pos,bn,bP⟩=some ⟨[(d, .val (.int .u8 r.toNat))],[],[]⟩:=by show BC C _ T (un g (S.get C x)) (fl (un g (S.get C y)))=_;unfold qw at hi;split at hi;·{rename_i hp;simp only[hx,hy,fl,BC,hu.ul,if_pos hp,hi,Option.bind_some];rfl};·cases hi
section
variable{e:TypeId}{xs:Array Operand}{ts:Array TypeId}{T:TypeId}
theorem cn{α:Type}{c:α→List aa}{q:List α}(hx:un g (S.get C x)= .sl (q.map c):=by first|exact rfl|exact cm)[hu:ff C T (.slice e)]:bN C f call S g ⟨some d, .call ⟨.builtin .len,⟨[x]⟩,⟨[T]⟩⟩,ty,pos,bn,bP⟩=some ⟨[(d, .val (.int .i64 q.length))],[],[]⟩:=by show tA C _ _ ([x].map fun x=>un g (S.get C x))=_;simp[hx,tA,hu.ul,Gv,Gw,wR]
theorem xC{id:Id}{off m m':Nat}(hx:un g (S.get C x)= .rs id off m':=by first|exact rfl|exact cm)(hm:m'=m:=by first|exact List.length_map _|exact rfl)[hu:ff C T (.slice e)]:bN C f call S g ⟨some d, .call ⟨.builtin .len,⟨[x]⟩,⟨[T]⟩⟩,ty,pos,bn,bP⟩=some ⟨[(d, .val (.int .i64 m))],[],[]⟩:=by show tA C _ _ ([x].map fun x=>un g (S.get C x))=_;simp[hx,tA,hu.ul,Gv,Gw,wR,hm]
theorem o4{s:ByteArray}(hx:un g (S.get C x)= .val (.string s):=by first|exact rfl|exact cm)[hu:ff C T .string]:bN C f call S g ⟨some d, .call ⟨.builtin .len,⟨[x]⟩,⟨[T]⟩⟩,ty,pos,bn,bP⟩=some ⟨[(d, .val (.int .i64 s.size))],[],[]⟩:=by show tA C _ _ ([x].map fun x=>un g (S.get C x))=_;simp[hx,tA,hu.ul,Gv,wR]
end
theorem VY:([]:List (Nat×Operand)).map (fun p=>(p.1,un g (S.get C p.2)))=[]:=rfl
theorem alO{i:Nat}{l:List (Nat×Operand)}{l':List (Nat×aa)}(hx:un g (S.get C x)=v)(k:l.map (fun p=>(p.1,un g (S.get C p.2)))=l'):((i,x)::l).map (fun p=>(p.1,un g (S.get C p.2)))=(i,v)::l':=by simp[hx,k]
theorem KI{l:List (Nat×Operand)}{l':List (Nat×aa)}(h:l.map (fun p=>(p.1,un g (S.get C p.2)))=l':=by repeat(first|exact VY|(apply alO;exact gt))):l.map (fun p=>(p.1,un g (S.get C p.2)))=l':=h
theorem cX{p:List (Nat×Operand)}{gA cs cs0:List aa}{pl:List (Nat×Nat×Bool)}{ps:List (Nat×aa)}[hz:lK C T gA][hp:Pl C T pl](hq:(p.map fun p=>(p.1,un g (S.get C p.2)))=ps:=by exact KI)(hf:yQ pl gA ps=some cs0:=by exact rfl)(hc:cs0=cs:=by exact spine)(gG:C.wq f d=[]:=by exact rfl):bN C f call S g ⟨some d, .build T ⟨p⟩,ty,pos,bn,bP⟩=some ⟨[(d, .agg cs)],[],[]⟩:=by show wN C f _ T (p.map fun p=>(p.1,un g (S.get C p.2)))=_;rw[hq];simp[wN,hz.gA,hp.pl,hf,hc,Iq,gG,wu]
theorem lA{p:List (Nat×Operand)}{gA X6 cs cs0:List aa}{l:List Nat}{pl:List (Nat×Nat×Bool)}{ps:List (Nat×aa)}[hz:lK C T gA][hp:Pl C T pl](gG:C.wq f d=l:=by exact rfl)(B8:wu l gA=X6:=by exact rfl)(hq:(p.map fun p=>(p.1,un g (S.get C p.2)))=ps:=by exact KI)(hf:yQ pl X6 ps=some cs0:=by exact rfl)(hc:cs0=cs:=by exact spine):bN C f call S g ⟨some d, .build T ⟨p⟩,ty,pos,bn,bP⟩=some ⟨[(d, .agg cs)],[],[]⟩:=by subst B8;show wN C f _ T (p.map fun p=>(p.1,un g (S.get C p.2)))=_;rw[hq];simp[wN,hz.gA,hp.pl,hf,hc,Iq,gG]
theorem GH{dN:Fn}{fs cs:Array Operand}{fa fb:List aa}(ha:(fs.toList.map fun x=>un g (S.get C x))=fa:=by exact spine)(hb:(cs.toList.map fun x=>un g (S.get C x))=fb:=by exact spine):bN C f call S g ⟨some d, .makeFunc dN fs cs,ty,pos,bn,bP⟩=some ⟨[(d, .fn dN fa fb)],[],[]⟩:=by subst ha hb;rfl
theorem ee{vs:List aa}{i:Nat}(hx:un g (S.get C x)= .bG vs:=by first|exact rfl|exact cm)(hi:vs[i]? =some v:=by exact rfl):bN C f call S g ⟨some d, .extract x i,ty,pos,bn,bP⟩=some ⟨[(d,v)],[],[]⟩:=by show BB _ (un g (S.get C x)) i=_;rw[hx];simp[BB,hi]
theorem cp(hx:un g (S.get C x)=v:=by exact gt)(hv:(match v with| .ax _| .mp _ _ _| .fn (.func _) _ _=>true|_=>false)=true:=by exact rfl):bN C f call S g ⟨some d, .nilCheck x,ty,pos,bn,bP⟩=some ⟨[(d,v)],[],[]⟩:=by show BD _ (un g (S.get C x))=_;rw[hx];cases v with|fn dN a b=>(cases dN<;>first|rfl|cases hv)|ax _=>(rfl)|mp _ _ _=>(rfl)|_=>cases hv
theorem ai7{P:Program}{ts:Array TypeId}{k:IntKind}{a b:Int}:Ki P ts ty [.int k a, .int k b]=some (.int k (max a b)):=by have e:(if b>a then b else a)=max a b:=by{omega};simp[Ki,Builtin.max_,Builtin.max2,dV,List.foldlM,bind,Sem.bind,pure,e]
theorem Kr{k:IntKind}{a b:Int}{ts:Array TypeId}(hx:un g (S.get C x)= .val (.int k a):=by first|exact rfl|exact cm)(hy:un g (S.get C y)= .val (.int k b):=by first|exact rfl|exact cm):bN C f call S g ⟨some d, .call ⟨.builtin .max,⟨[x,y]⟩,ts⟩,ty,pos,bn,bP⟩=some ⟨[(d, .val (.int k (max a b)))],[],[]⟩:=by show(match kD ([x,y].map fun x=>un g (S.get C x))with|some vs=>mR _ (Ki C.P ts ty vs)|none=>none)=_;simp only[List.map_cons,List.map_nil,hx,hy,kD,Option.map_some,ai7];rfl
/-! ### Parts of slices and strings -/
def oh(s:ByteArray)(lo hi:Option Int):Option ByteArray:=(bounds (lo.map some) (hi.map some) s.size).map fun p=>s.extract p.1 p.2
theorem Rh:(none.map fun y=>fl (un g (S.get C y)))=(none:Option Int).map some:=rfl
theorem Ri{n:Int}(h:un g (S.get C y)= .val (.int k n):=by first|exact rfl|exact cm):((some y).map fun y=>fl (un g (S.get C y)))=(some n).map some:=by show some (fl (un g (S.get C y)))=_;rw[h];rfl
theorem yw{α:Type}{c:α→List aa}{q:List α}{m:Nat}(hc:∀x,(c x).length=m):(q.map c).all (·.length==m)=true:=by simp[hc]
theorem xF{s r:ByteArray}{lo hi:Option Operand}{lo' hi':Option Int}(hr:oh s lo' hi'=some r)[hu:ff C T .string](hx:un g (S.get C x)= .val (.string s):=by first|exact rfl|exact cm)(h1:(lo.map fun y=>fl (un g (S.get C y)))=lo'.map some:=by first|exact Rh|exact Ri)(h2:(hi.map fun y=>fl (un g (S.get C y)))=hi'.map some:=by first|exact Rh|exact Ri):bN C f call S g ⟨some d, .slice T x lo hi none,ty,pos,bn,bP⟩=some ⟨[(d, .val (.string r))],[],[]⟩:=by show sn C S _ T (un g (S.get C x)) (lo.map fun y=>fl (un g (S.get C y))) (hi.map fun y=>fl (un g (S.get C y)))=_;unfold oh at hr;obtain⟨p,hp,rfl⟩:=Option.map_eq_some_iff.1 hr;rw[hx,h1,h2];simp only[sn,hu.ul,hp,Option.bind_some];rfl
end
end Go.Ab
