import Derived.Test.YtbhpblokoecoaaaAbEqS
namespace Go.Ab
open Go
inductive agA where|nil|code(n:Int)|other deriving DecidableEq,Inhabited
def g8:Option Int→aa|none=> .val (.pointer none)|some n=> .au [.val (.int .i64 n)]
def iK(o:Option Int):List aa:=[g8 o]
/-! ### Facts about the program's types, found by their numbers -/
class eC(C:aV)(t:TypeId)(d:outParam TypeDesc):Prop where ul:C.P.underlying t=some d
class dx (C : aV) (t : TypeId) (b : outParam Bool) (n : outParam Nat) : Prop where
  j9 : kC C t = some b
  sz : gH C t = some n
class Fd(C:aV)(t i:Nat)(off n:outParam Nat)(b:outParam Bool):Prop where fd:Ca C t i=some (off,n,b)
class lM(C:aV)(t:TypeId)(cs:outParam (List aa)):Prop where fo:yl C t=some cs
class jE(C:aV)(t:TypeId)(cs:outParam (List aa)):Prop where Lr:ym C t=some cs
class Pl(C:aV)(t:TypeId)(pl:outParam (List (Nat×Nat×Bool))):Prop where pl:KM C t=some pl
def BK(C:aV)(e:TypeId)(m:Nat):Bool:=match C.P.info? e with|some i=>i.size==m&&decide (0<m)&&decide (i.bytes≤4096)&&ED i|none=>false
class r3(C:aV)(e:TypeId)(m:outParam Nat):Prop where ao:BK C e m=true
class jQ{α:Type}(c:α→List aa):Prop where cX:∀x,ey (c x)=true
class qy {α : Type} (c : α → List aa) : Prop where
  im : ∀ x, dU (c x) = true
  ce : ∀ x, (c x).all aa.cell = true
class EI{α:Type}(c:α→List aa)(c':outParam (α→List aa)):Prop where eE:∀x,iw (c x)=c' x
class agD{α:Type}(c:α→List aa):Prop where mi:∀x,lq (c x)=true
section
variable{g g' h k:Bool}{x:aa}
theorem yc{e:Option Int}:un g (g8 e)=g8 e:=by cases e<;>cases g<;>rfl
theorem af5{p:Bool}:un (true&&p) (.dj (p==true) x)=x:=by cases p<;>rfl
theorem af6{p:Bool}:un (true&& !p) (.dj (p==false) x)=x:=by cases p<;>rfl
theorem af7{p:Bool}:un (g&&p) (.dj (g&&(p==true)) x)=x:=by cases p<;>cases g<;>rfl
theorem af8{p:Bool}:un (g&& !p) (.dj (g&&(p==false)) x)=x:=by cases p<;>cases g<;>rfl
end
theorem b6{a b:aa}(h:a=b:=by first|exact Sg _|exact af4|exact yc|exact ale|exact af5|exact af6|exact af7|exact af8|exact ak3|exact ak4|exact ak7|exact ak5|exact ak6):a=b:=h
theorem gt{a b:aa}(h:a=b:=by first|exact(rfl:_=aa.val _)|exact(rfl:_=aa.sl _)|exact(rfl:_=aa.rs _ _ _)|exact(rfl:_=aa.mp _ _ _)|exact(rfl:_=aa.au _)|exact(rfl:_=aa.agg _)|exact(rfl:_=aa.cN)|exact(rfl:_=aa.b9 _)|exact(rfl:_=aa.fn _ _ _)|exact af4|exact yc|exact(rfl:_=aa.nn)|exact(rfl:_=aa.mr _)|exact(rfl:_=aa.im _)|exact(rfl:_=aa.dW _)|exact b6):a=b:=h
theorem afu{α:Type}{a:α}{l t t':List α}(h:l=a::t)(k:t=t'):l=a::t':=by rw[h,k]
theorem afv{α:Type}{l:List α}(h:l=[]:=by exact rfl):l=[]:=h
theorem spine{α:Type}{a b:List α}(h:a=b:=by repeat(first|exact afv|apply afu rfl)):a=b:=h
theorem Pk{α:Type}{o:Option α}(h:o=none):o.isNone=true:=by rw[h];rfl
section
variable{C:aV}{f:FuncId}{call:gS}{S:an}{g:Bool}
variable{d:Nat}{ty:TypeId}{pos:String}{bq:Array Edge}{bJ:Option (Nat×Bool)}{v v':aa}
variable{x y z:Operand}{k:IntKind}{a b:Int}{T di:TypeId}
theorem U(h:un g (S.get C x)=v:=by exact gt):bD C f call S g ⟨some d, .move x,ty,pos,bq,bJ⟩=some ⟨[(d,v)],[],[]⟩:=by subst h;rfl
theorem ag(h:un g (S.get C x)=v:=by exact gt):bD C f call S g ⟨some d, .assign x,ty,pos,bq,bJ⟩=some ⟨[(d,v)],[],[]⟩:=by subst h;rfl
theorem zX{op:BinOp}{Mm Mn:aa}{hY rZ mq:Value}(hx:un g (S.get C x)=Mm)(hy:un g (S.get C y)=Mn)(h1:lG Mm=some hY)(h2:lG Mn=some rZ)(hb:eo C.P op T x y hY rZ=some mq)(hs:er mq=true):bD C f call S g ⟨some d, .binOp op T x y di,ty,pos,bq,bJ⟩=some ⟨[(d, .val mq)],[],[]⟩:=by show nE C _ op T x y (un g (S.get C x)) (un g (S.get C y))=_;rw[hx,hy];simp[nE,h1,h2,hb,hs]
theorem mY{op:BinOp}{mq:Value}(hb:eo C.P op T x y (.int k a) (.int k b)=some mq)(hs:er mq=true)(hx:un g (S.get C x)= .val (.int k a))(hy:un g (S.get C y)= .val (.int k b)):bD C f call S g ⟨some d, .binOp op T x y di,ty,pos,bq,bJ⟩=some ⟨[(d, .val mq)],[],[]⟩:=zX hx hy rfl rfl hb hs
theorem cP(hx:un g (S.get C x)= .val (.int k a):=by first|exact rfl|exact b6)(hy:un g (S.get C y)= .val (.int k b):=by first|exact rfl|exact b6):bD C f call S g ⟨some d, .binOp .add T x y di,ty,pos,bq,bJ⟩=some ⟨[(d, .val (.int k (k.wrap (a+b))))],[],[]⟩:=mY VK rfl hx hy
theorem dY(hx:un g (S.get C x)= .val (.int k a):=by first|exact rfl|exact b6)(hy:un g (S.get C y)= .val (.int k b):=by first|exact rfl|exact b6):bD C f call S g ⟨some d, .binOp .sub T x y di,ty,pos,bq,bJ⟩=some ⟨[(d, .val (.int k (k.wrap (a-b))))],[],[]⟩:=mY VY rfl hx hy
theorem Qg(hx:un g (S.get C x)= .val (.int k a):=by first|exact rfl|exact b6)(hy:un g (S.get C y)= .val (.int k b):=by first|exact rfl|exact b6):bD C f call S g ⟨some d, .binOp .mul T x y di,ty,pos,bq,bJ⟩=some ⟨[(d, .val (.int k (k.wrap (a*b))))],[],[]⟩:=mY VS rfl hx hy
theorem aq(hx:un g (S.get C x)= .val (.int k a):=by first|exact rfl|exact b6)(hy:un g (S.get C y)= .val (.int k b):=by first|exact rfl|exact b6):bD C f call S g ⟨some d, .binOp .eql T x y di,ty,pos,bq,bJ⟩=some ⟨[(d, .val (.bool (a==b)))],[],[]⟩:=mY VL rfl hx hy
theorem dH(hx:un g (S.get C x)= .val (.int k a):=by first|exact rfl|exact b6)(hy:un g (S.get C y)= .val (.int k b):=by first|exact rfl|exact b6):bD C f call S g ⟨some d, .binOp .neq T x y di,ty,pos,bq,bJ⟩=some ⟨[(d, .val (.bool (a !=b)))],[],[]⟩:=mY VT rfl hx hy
theorem cY(hx:un g (S.get C x)= .val (.int k a):=by first|exact rfl|exact b6)(hy:un g (S.get C y)= .val (.int k b):=by first|exact rfl|exact b6):bD C f call S g ⟨some d, .binOp .lss T x y di,ty,pos,bq,bJ⟩=some ⟨[(d, .val (.bool (decide (a<b))))],[],[]⟩:=mY VR rfl hx hy
theorem jK(hx:un g (S.get C x)= .val (.int k a):=by first|exact rfl|exact b6)(hy:un g (S.get C y)= .val (.int k b):=by first|exact rfl|exact b6):bD C f call S g ⟨some d, .binOp .leq T x y di,ty,pos,bq,bJ⟩=some ⟨[(d, .val (.bool (decide (a≤b))))],[],[]⟩:=mY VQ rfl hx hy
theorem gw(hx:un g (S.get C x)= .val (.int k a):=by first|exact rfl|exact b6)(hy:un g (S.get C y)= .val (.int k b):=by first|exact rfl|exact b6):bD C f call S g ⟨some d, .binOp .gtr T x y di,ty,pos,bq,bJ⟩=some ⟨[(d, .val (.bool (decide (b<a))))],[],[]⟩:=mY VP rfl hx hy
theorem g6(hx:un g (S.get C x)= .val (.int k a):=by first|exact rfl|exact b6)(hy:un g (S.get C y)= .val (.int k b):=by first|exact rfl|exact b6):bD C f call S g ⟨some d, .binOp .geq T x y di,ty,pos,bq,bJ⟩=some ⟨[(d, .val (.bool (decide (b≤a))))],[],[]⟩:=mY VO rfl hx hy
theorem VM{P:Program}{a b:ByteArray}:eo P .eql T x y (.string a) (.string b)=some (.bool (a.toList==b.toList)):=by simp[eo,eqGuard,binOp,Op.stringOp,dz,bind,Sem.bind,pure]
theorem VU{P:Program}{a b:ByteArray}:eo P .neq T x y (.string a) (.string b)=some (.bool (a.toList !=b.toList)):=by simp[eo,eqGuard,binOp,Op.stringOp,dz,bind,Sem.bind,pure,bne]
theorem cm{a b:ByteArray}(hx:un g (S.get C x)= .val (.string a):=by first|exact rfl|exact b6)(hy:un g (S.get C y)= .val (.string b):=by first|exact rfl|exact b6):bD C f call S g ⟨some d, .binOp .eql T x y di,ty,pos,bq,bJ⟩=some ⟨[(d, .val (.bool (a.toList==b.toList)))],[],[]⟩:=zX hx hy rfl rfl VM rfl
theorem Gs{a b:ByteArray}(hx:un g (S.get C x)= .val (.string a):=by first|exact rfl|exact b6)(hy:un g (S.get C y)= .val (.string b):=by first|exact rfl|exact b6):bD C f call S g ⟨some d, .binOp .neq T x y di,ty,pos,bq,bJ⟩=some ⟨[(d, .val (.bool (a.toList !=b.toList)))],[],[]⟩:=zX hx hy rfl rfl VU rfl
theorem kI{op:BinOp}{xs ys:List aa}{vx vy:List Value}{q:Bool}(hb:eo C.P op T x y (.agg ⟨vx⟩) (.agg ⟨vy⟩)=some (.bool q))(hx:un g (S.get C x)= .agg xs:=by first|exact rfl|exact b6)(hy:un g (S.get C y)= .agg ys:=by first|exact rfl|exact b6)(h1:jb xs=some vx:=by exact rfl)(h2:jb ys=some vy:=by exact rfl):bD C f call S g ⟨some d, .binOp op T x y di,ty,pos,bq,bJ⟩=some ⟨[(d, .val (.bool q))],[],[]⟩:=zX hx hy (by simp[lG,h1]) (by simp[lG,h2]) hb rfl
theorem eV{p:Bool}(hx:un g (S.get C x)= .val (.bool p):=by first|exact rfl|exact b6):bD C f call S g ⟨some d, .unOp .not T x,ty,pos,bq,bJ⟩=some ⟨[(d, .val (.bool !p))],[],[]⟩:=by show vX C _ .not (un g (S.get C x))=_;rw[hx];rfl
theorem Qn{op:UnOp}{hY mq:Value}(hb:Bm C.P op hY=some mq)(hs:er mq=true)(hx:un g (S.get C x)= .val hY:=by first|exact rfl|exact b6):bD C f call S g ⟨some d, .unOp op T x,ty,pos,bq,bJ⟩=some ⟨[(d, .val mq)],[],[]⟩:=by show vX C _ op (un g (S.get C x))=_;rw[hx];simp[hb,hs]
theorem acA{hY mq:Value}(hb:Fe C.P T di hY=some mq)(hx:un g (S.get C x)= .val hY:=by first|exact rfl|exact b6)(hs:er mq=true:=by exact rfl)(hnb:yO C T di=false:=by first|rfl|decide):bD C f call S g ⟨some d, .convert T di x,ty,pos,bq,bJ⟩=some ⟨[(d, .val mq)],[],[]⟩:=by show vV C _ T di (un g (S.get C x))=_;rw[hx,Xx hnb];simp[hb,hs]
theorem aU{p q r:Bool}(hx:un g (S.get C x)= .val (.bool p):=by first|exact rfl|exact b6)(hy:un (g&&p) (S.get C y)= .val (.bool q):=by first|exact rfl|exact b6)(hz:un (g&& !p) (S.get C z)= .val (.bool r):=by first|exact rfl|exact b6):bD C f call S g ⟨some d, .pick x y z,ty,pos,bq,bJ⟩=some ⟨[(d, .val (.bool (if p then q else r)))],[],[]⟩:=by show uf _ (un g (S.get C x)) (un (g&&lP (un g (S.get C x))) (S.get C y)) (un (g&& !lP (un g (S.get C x))) (S.get C z))=_;rw[hx];simp only[lP];rw[hy,hz];rfl
theorem cz{q:Bool}(hx:un g (S.get C x)= .val (.bool true):=by exact rfl)(hy:un (g&&true) (S.get C y)= .val (.bool q):=by first|exact rfl|exact b6):bD C f call S g ⟨some d, .pick x y z,ty,pos,bq,bJ⟩=some ⟨[(d, .val (.bool q))],[],[]⟩:=by show uf _ (un g (S.get C x)) (un (g&&lP (un g (S.get C x))) (S.get C y)) (un (g&& !lP (un g (S.get C x))) (S.get C z))=_;rw[hx];simp only[lP];rw[hy];generalize un (g&& !true) (S.get C z)=w;cases w with|val v=>(cases v<;>rfl)|_=>rfl
theorem bY{q:Bool}(hx:un g (S.get C x)= .val (.bool false):=by exact rfl)(hz:un (g&&true) (S.get C z)= .val (.bool q):=by first|exact rfl|exact b6):bD C f call S g ⟨some d, .pick x y z,ty,pos,bq,bJ⟩=some ⟨[(d, .val (.bool q))],[],[]⟩:=by show uf _ (un g (S.get C x)) (un (g&&lP (un g (S.get C x))) (S.get C y)) (un (g&& !lP (un g (S.get C x))) (S.get C z))=_;rw[hx];simp only[lP,Bool.not_false];rw[hz];generalize un (g&&false) (S.get C y)=w;cases w with|val v=>(cases v<;>rfl)|_=>rfl
/-! ### Memory that does not change -/
theorem dR{bb:Bool}{m:Nat}{cs cs':List aa}[ha:dx C T bb m](hin:(C.eJ f).contains d=true:=by exact rfl)(hx:un g (S.get C x)=v:=by exact gt)(hc:nx bb v=some cs:=by exact rfl)(hz:jJ cs=cs':=by exact spine)(hi:dU cs'=true:=by exact rfl):bD C f call S g ⟨some d, .box T x,ty,pos,bq,bJ⟩=some ⟨[(d, .au cs')],[],[]⟩:=by show pO C f S _ T (un g (S.get C x))=_;simp only[pO,ha.j9,hx,hc,fe,hin,hz,hi,Bool.and_self,if_true];rfl
theorem ah{m:Nat}{cells cs:List aa}[ha:dx C T false m](hx:un g (S.get C x)= .au cells:=by first|exact rfl|exact b6)(hm:m=1:=by exact rfl)(hv:cells=v::cs:=by exact rfl):bD C f call S g ⟨some d, .load T x,ty,pos,bq,bJ⟩=some ⟨[(d,v)],[],[]⟩:=by show lT C S _ T (un g (S.get C x))=_;subst hm hv;simp[lT,ha.j9,ha.sz,hx,kG]
theorem bn{m:Nat}{cells cs:List aa}[ha:dx C T true m](hx:un g (S.get C x)= .au cells:=by first|exact rfl|exact b6)(hl:Nat.ble m cells.length=true:=by exact rfl)(hv:cells.take m=cs:=by exact spine):bD C f call S g ⟨some d, .load T x,ty,pos,bq,bJ⟩=some ⟨[(d, .agg cs)],[],[]⟩:=by show lT C S _ T (un g (S.get C x))=_;have hl':m≤cells.length:=Nat.le_of_ble_eq_true hl;simp[lT,ha.j9,ha.sz,hx,hl',hv,kG]
theorem aj{i off m:Nat}{bb:Bool}{cells:List aa}[hf:Fd C T i off m bb](hx:un g (S.get C x)= .au cells:=by first|exact rfl|exact b6)(h0:Nat.blt 0 m=true:=by exact rfl)(hl:Nat.ble off cells.length=true:=by exact rfl)(hz:(C.eJ f).contains d=false:=by exact rfl):bD C f call S g ⟨some d, .fieldAddr T x i,ty,pos,bq,bJ⟩=some ⟨[(d, .au (cells.drop off))],[],[]⟩:=by show qN C f _ T i (un g (S.get C x))=_;have hl':off≤cells.length:=Nat.le_of_ble_eq_true hl;have wh:0<m:=of_decide_eq_true (lO h0);simp only[qN,hf.fd,hx,fe,hz];rw[if_pos ⟨wh,hl'⟩];rfl
theorem acC{i off m:Nat}{bb:Bool}{cells cs:List aa}[hf:Fd C T i off m bb](hx:un g (S.get C x)= .au cells:=by first|exact rfl|exact b6)(h0:Nat.blt 0 m=true:=by exact rfl)(hl:Nat.ble (off+m) cells.length=true:=by exact rfl)(hz:(C.eJ f).contains d=true:=by exact rfl)(hc:(cells.drop off).take m=cs:=by exact spine):bD C f call S g ⟨some d, .fieldAddr T x i,ty,pos,bq,bJ⟩=some ⟨[(d, .au cs)],[],[]⟩:=by show qN C f _ T i (un g (S.get C x))=_;have hl':off+m≤cells.length:=Nat.le_of_ble_eq_true hl;have wh:0<m:=of_decide_eq_true (lO h0);simp only[qN,hf.fd,hx,fe,hz,if_true];rw[if_pos ⟨wh,by omega⟩,if_pos hl',hc];rfl
theorem aR{e:TypeId}{m:Nat}{bb:Bool}{α:Type}{c:α→List aa}{q:List α}{i:Int}{r:α}(hi:idx q i=some r)[hu:eC C T (.slice e)][hs:dx C e bb m](hx:un g (S.get C x)= .sl (q.map c):=by first|exact rfl|exact b6)(hy:un g (S.get C y)= .val (.int k i):=by first|exact rfl|exact b6)(h0:Nat.blt 0 m=true:=by exact rfl)(hr:(c r).length=m:=by exact rfl):bD C f call S g ⟨some d, .indexAddr T x y,ty,pos,bq,bJ⟩=some ⟨[(d, .au (c r))],[],[]⟩:=by show nG C S _ T (un g (S.get C x)) (eF (un g (S.get C y)))=_;have wh:0<m:=of_decide_eq_true (lO h0);have h1:=C4 (c:=c) hi;unfold idx at h1;split at h1;·{rename_i hp;simp only[hx,hy,eF,nG,hu.ul,hs.sz,if_pos hp,h1,Option.bind_some];simp[hr,wh]};·cases h1
def od(s:ByteArray)(i:Int):Option UInt8:=if 0≤i then s[i.toNat]? else none
theorem zR{s:ByteArray}{i:Int}{r:UInt8}(hi:od s i=some r)[hu:eC C T .string](hx:un g (S.get C x)= .val (.string s):=by first|exact rfl|exact b6)(hy:un g (S.get C y)= .val (.int k i):=by first|exact rfl|exact b6):bD C f call S g ⟨some d, .index T x y,ty,pos,bq,bJ⟩=some ⟨[(d, .val (.int .u8 r.toNat))],[],[]⟩:=by show y3 C _ T (un g (S.get C x)) (eF (un g (S.get C y)))=_;unfold od at hi;split at hi;·{rename_i hp;simp only[hx,hy,eF,y3,hu.ul,if_pos hp,hi,Option.bind_some];rfl};·cases hi
section
variable{e:TypeId}{xs:Array Operand}{ts:Array TypeId}{T:TypeId}
theorem bW{α:Type}{c:α→List aa}{q:List α}(hx:un g (S.get C x)= .sl (q.map c):=by first|exact rfl|exact b6)[hu:eC C T (.slice e)]:bD C f call S g ⟨some d, .call ⟨.builtin .len,⟨[x]⟩,⟨[T]⟩⟩,ty,pos,bq,bJ⟩=some ⟨[(d, .val (.int .i64 q.length))],[],[]⟩:=by show qO C _ _ ([x].map fun x=>un g (S.get C x))=_;simp[hx,qO,hu.ul,De,Df,ug]
theorem zS{id:Id}{off m m':Nat}(hx:un g (S.get C x)= .rs id off m':=by first|exact rfl|exact b6)(hm:m'=m:=by first|exact List.length_map _|exact rfl)[hu:eC C T (.slice e)]:bD C f call S g ⟨some d, .call ⟨.builtin .len,⟨[x]⟩,⟨[T]⟩⟩,ty,pos,bq,bJ⟩=some ⟨[(d, .val (.int .i64 m))],[],[]⟩:=by show qO C _ _ ([x].map fun x=>un g (S.get C x))=_;simp[hx,qO,hu.ul,De,Df,ug,hm]
theorem oT{s:ByteArray}(hx:un g (S.get C x)= .val (.string s):=by first|exact rfl|exact b6)[hu:eC C T .string]:bD C f call S g ⟨some d, .call ⟨.builtin .len,⟨[x]⟩,⟨[T]⟩⟩,ty,pos,bq,bJ⟩=some ⟨[(d, .val (.int .i64 s.size))],[],[]⟩:=by show qO C _ _ ([x].map fun x=>un g (S.get C x))=_;simp[hx,qO,hu.ul,De,ug]
end
theorem aej:([]:List (Nat×Operand)).map (fun p=>(p.1,un g (S.get C p.2)))=[]:=rfl
theorem aei{i:Nat}{l:List (Nat×Operand)}{l':List (Nat×aa)}(hx:un g (S.get C x)=v)(k:l.map (fun p=>(p.1,un g (S.get C p.2)))=l'):((i,x)::l).map (fun p=>(p.1,un g (S.get C p.2)))=(i,v)::l':=by simp[hx,k]
theorem Dx{l:List (Nat×Operand)}{l':List (Nat×aa)}(h:l.map (fun p=>(p.1,un g (S.get C p.2)))=l':=by repeat(first|exact aej|(apply aei;exact gt))):l.map (fun p=>(p.1,un g (S.get C p.2)))=l':=h
theorem dr{p:List (Nat×Operand)}{fo cs cs0:List aa}{pl:List (Nat×Nat×Bool)}{ps:List (Nat×aa)}[hz:lM C T fo][hp:Pl C T pl](hq:(p.map fun p=>(p.1,un g (S.get C p.2)))=ps:=by exact Dx)(hf:vY pl fo ps=some cs0:=by exact rfl)(hc:cs0=cs:=by exact spine)(jH:C.tK f d=[]:=by exact rfl):bD C f call S g ⟨some d, .build T ⟨p⟩,ty,pos,bq,bJ⟩=some ⟨[(d, .agg cs)],[],[]⟩:=by show ud C f _ T (p.map fun p=>(p.1,un g (S.get C p.2)))=_;rw[hq];simp[ud,hz.fo,hp.pl,hf,hc,EE,jH,tL]
theorem acz{p:List (Nat×Operand)}{fo SG cs cs0:List aa}{l:List Nat}{pl:List (Nat×Nat×Bool)}{ps:List (Nat×aa)}[hz:lM C T fo][hp:Pl C T pl](jH:C.tK f d=l:=by exact rfl)(uH:tL l fo=SG:=by exact rfl)(hq:(p.map fun p=>(p.1,un g (S.get C p.2)))=ps:=by exact Dx)(hf:vY pl SG ps=some cs0:=by exact rfl)(hc:cs0=cs:=by exact spine):bD C f call S g ⟨some d, .build T ⟨p⟩,ty,pos,bq,bJ⟩=some ⟨[(d, .agg cs)],[],[]⟩:=by subst uH;show ud C f _ T (p.map fun p=>(p.1,un g (S.get C p.2)))=_;rw[hq];simp[ud,hz.fo,hp.pl,hf,hc,EE,jH]
theorem Kw{eO:Fn}{fs cs:Array Operand}{fa fb:List aa}(ha:(fs.toList.map fun x=>un g (S.get C x))=fa:=by exact spine)(hb:(cs.toList.map fun x=>un g (S.get C x))=fb:=by exact spine):bD C f call S g ⟨some d, .makeFunc eO fs cs,ty,pos,bq,bJ⟩=some ⟨[(d, .fn eO fa fb)],[],[]⟩:=by subst ha hb;rfl
theorem de{vs:List aa}{i:Nat}(hx:un g (S.get C x)= .b9 vs:=by first|exact rfl|exact b6)(hi:vs[i]? =some v:=by exact rfl):bD C f call S g ⟨some d, .extract x i,ty,pos,bq,bJ⟩=some ⟨[(d,v)],[],[]⟩:=by show y2 _ (un g (S.get C x)) i=_;rw[hx];simp[y2,hi]
theorem dg(hx:un g (S.get C x)=v:=by exact gt)(hv:(match v with| .au _| .mp _ _ _| .fn (.func _) _ _=>true|_=>false)=true:=by exact rfl):bD C f call S g ⟨some d, .nilCheck x,ty,pos,bq,bJ⟩=some ⟨[(d,v)],[],[]⟩:=by show y4 _ (un g (S.get C x))=_;rw[hx];cases v with|fn eO a b=>(cases eO<;>first|rfl|cases hv)|au _=>(rfl)|mp _ _ _=>(rfl)|_=>cases hv
theorem abO{P:Program}{ts:Array TypeId}{k:IntKind}{a b:Int}:Ge P ts ty [.int k a, .int k b]=some (.int k (max a b)):=by have e:(if b>a then b else a)=max a b:=by{omega};simp[Ge,Builtin.max_,Builtin.max2,dz,List.foldlM,bind,Sem.bind,pure,e]
theorem Gq{k:IntKind}{a b:Int}{ts:Array TypeId}(hx:un g (S.get C x)= .val (.int k a):=by first|exact rfl|exact b6)(hy:un g (S.get C y)= .val (.int k b):=by first|exact rfl|exact b6):bD C f call S g ⟨some d, .call ⟨.builtin .max,⟨[x,y]⟩,ts⟩,ty,pos,bq,bJ⟩=some ⟨[(d, .val (.int k (max a b)))],[],[]⟩:=by show(match jb ([x,y].map fun x=>un g (S.get C x))with|some vs=>j5 _ (Ge C.P ts ty vs)|none=>none)=_;simp only[List.map_cons,List.map_nil,hx,hy,jb,Option.map_some,abO];rfl
/-! ### Parts of slices and strings -/
def tq(s:ByteArray)(lo hi:Option Int):Option ByteArray:=(bounds (lo.map some) (hi.map some) s.size).map fun p=>s.extract p.1 p.2
theorem Mv:(none.map fun y=>eF (un g (S.get C y)))=(none:Option Int).map some:=rfl
theorem Mw{n:Int}(h:un g (S.get C y)= .val (.int k n):=by first|exact rfl|exact b6):((some y).map fun y=>eF (un g (S.get C y)))=(some n).map some:=by show some (eF (un g (S.get C y)))=_;rw[h];rfl
theorem vE{α:Type}{c:α→List aa}{q:List α}{m:Nat}(hc:∀x,(c x).length=m):(q.map c).all (·.length==m)=true:=by simp[hc]
theorem Gt{s r:ByteArray}{lo hi:Option Operand}{lo' hi':Option Int}(hr:tq s lo' hi'=some r)[hu:eC C T .string](hx:un g (S.get C x)= .val (.string s):=by first|exact rfl|exact b6)(h1:(lo.map fun y=>eF (un g (S.get C y)))=lo'.map some:=by first|exact Mv|exact Mw)(h2:(hi.map fun y=>eF (un g (S.get C y)))=hi'.map some:=by first|exact Mv|exact Mw):bD C f call S g ⟨some d, .slice T x lo hi none,ty,pos,bq,bJ⟩=some ⟨[(d, .val (.string r))],[],[]⟩:=by show pS C S _ T (un g (S.get C x)) (lo.map fun y=>eF (un g (S.get C y))) (hi.map fun y=>eF (un g (S.get C y)))=_;unfold tq at hr;obtain⟨p,hp,rfl⟩:=Option.map_eq_some_iff.1 hr;rw[hx,h1,h2];simp only[pS,hu.ul,hp,Option.bind_some];rfl
end
end Go.Ab
