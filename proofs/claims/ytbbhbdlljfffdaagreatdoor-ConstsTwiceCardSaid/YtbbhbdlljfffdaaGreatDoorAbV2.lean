import Derived.Test.YtbbhbdlljfffdaaGreatDoorAbEqS
open List renaming map_cons→Hc
open Nat renaming ble→GE,le_of_ble_eq_true→GT,blt→Ha
open Option renaming bind_some→Hb,map_some→Hd
set_option linter.all false
namespace Go.Ab
open Go
inductive cB where|nil|code(n:Int)|other deriving DecidableEq,Inhabited
def fe(t:TypeId):cB→U| .nil=> .val .nilIface| .code n=> .val (.iface t (.int .i64 n))| .other=> .nn
def ga:Option Int→U|none=> .val (.pointer none)|some n=> .ay [.val (.int .i64 n)]
def gF(o:Option Int):List U:=[ga o]
/-! ### Facts about the program's types, found by their numbers -/
class cy(C:av)(t:TypeId)(d:outParam TypeDesc):Prop where ul:C.P.underlying t=some d
class cu(C:av)(t:TypeId)(b:outParam Bool)(n:outParam Nat):Prop where
 ja:jl C t=some b
 sz:fL C t=some n
class Fd(C:av)(t i:Nat)(off n:outParam Nat)(b:outParam Bool):Prop where fd:xD C t i=some (off,n,b)
class iN(C:av)(t:TypeId)(cs:outParam (List U)):Prop where eR:tT C t=some cs
class kY(C:av)(t:TypeId)(cs:outParam (List U)):Prop where Of:tU C t=some cs
class Pl(C:av)(t:TypeId)(pl:outParam (List (Nat×Nat×Bool))):Prop where pl:Gm C t=some pl
def w8(C:av)(e:TypeId)(m:Nat):Bool:=match C.P.info? e with|some i=>i.size==m&&decide (0<m)&&decide (i.bytes≤4096)&&zW i|none=>false
class p0(C:av)(e:TypeId)(m:outParam Nat):Prop where ao:w8 C e m=true
class lM{α:Type}(c:α→List U):Prop where fl:∀x,cg (c x)=true
class p6{α:Type}(c:α→List U):Prop where
 im:∀x,c9 (c x)=true
 ce:∀x,(c x).all U.cell=true
class wS{α:Type}(c:α→List U)(c':outParam (α→List U)):Prop where cI:∀x,gI (c x)=c' x
class adC{α:Type}(c:α→List U):Prop where mi:∀x,jF (c x)=true
section
variable{g g' h k:Bool}{x:U}
theorem Cu{t:TypeId}{e:cB}:un g (fe t e)=fe t e:=by cases e<;>cases g<;>rfl
theorem tQ{e:Option Int}:un g (ga e)=ga e:=by cases e<;>cases g<;>rfl
theorem acU{p:Bool}:un (true&&p) (.cv (p==true) x)=x:=by cases p<;>rfl
theorem acV{p:Bool}:un (true&& !p) (.cv (p==false) x)=x:=by cases p<;>rfl
theorem acW{p:Bool}:un (g&&p) (.cv (g&&(p==true)) x)=x:=by cases p<;>cases g<;>rfl
theorem acX{p:Bool}:un (g&& !p) (.cv (g&&(p==false)) x)=x:=by cases p<;>cases g<;>rfl
end
theorem bz{a b:U}(h:a=b:=by first|exact NK _|exact Cu|exact tQ|exact ahU|exact acU|exact acV|exact acW|exact acX|exact ahJ|exact ahK|exact ahN|exact ahL|exact ahM):a=b:=h
theorem gt{a b:U}(h:a=b:=by first|exact(rfl:_=U.val _)|exact(rfl:_=U.sl _)|exact(rfl:_=U.rs _ _ _)|exact(rfl:_=U.mp _ _ _)|exact(rfl:_=U.ay _)|exact(rfl:_=U.agg _)|exact(rfl:_=U.bU)|exact(rfl:_=U.aG _)|exact(rfl:_=U.fn _ _ _)|exact Cu|exact tQ|exact(rfl:_=U.nn)|exact(rfl:_=U.mr _)|exact(rfl:_=U.im _)|exact(rfl:_=U.dy _)|exact bz):a=b:=h
theorem acp{α:Type}{a:α}{l t t':List α}(h:l=a::t)(k:t=t'):l=a::t':=by rw[h,k]
theorem acq{α:Type}{l:List α}(h:l=[]:=by exact rfl):l=[]:=h
theorem spine{α:Type}{a b:List α}(h:a=b:=by repeat(first|exact acq|apply acp rfl)):a=b:=h
theorem K7{α:Type}{o:Option α}(h:o=none):o.isNone=true:=by rw[h];rfl
section
variable{C:av}{f:FuncId}{call:eT}{S:ah}{g:Bool}
variable{d:Nat}{ty:TypeId}{pos:String}{aD:Array Edge}{aS:Option (Nat×Bool)}{v v':U}
variable{x y z:Operand}{k:IntKind}{a b:Int}{T bP:TypeId}
theorem aa(h:un g (S.get C x)=v:=by exact gt):aR C f call S g ⟨some d, .move x,ty,pos,aD,aS⟩=some ⟨[(d,v)],[],[]⟩:=by subst h;rfl
theorem af(h:un g (S.get C x)=v:=by exact gt):aR C f call S g ⟨some d, .assign x,ty,pos,aD,aS⟩=some ⟨[(d,v)],[],[]⟩:=by subst h;rfl
theorem j9{op:BinOp}{It Iu:U}{dL fN ki:Value}(hx:un g (S.get C x)=It)(hy:un g (S.get C y)=Iu)(h1:jr It=some dL)(h2:jr Iu=some fN)(hb:cV C.P op T x y dL fN=some ki)(hs:dc ki=true):aR C f call S g ⟨some d, .binOp op T x y bP,ty,pos,aD,aS⟩=some ⟨[(d, .val ki)],[],[]⟩:=by show jT C _ op T x y (un g (S.get C x)) (un g (S.get C y))=_;rw[hx,hy];simp[jT,h1,h2,hb,hs]
theorem kP{op:BinOp}{ki:Value}(hb:cV C.P op T x y (.int k a) (.int k b)=some ki)(hs:dc ki=true)(hx:un g (S.get C x)= .val (.int k a))(hy:un g (S.get C y)= .val (.int k b)):aR C f call S g ⟨some d, .binOp op T x y bP,ty,pos,aD,aS⟩=some ⟨[(d, .val ki)],[],[]⟩:=j9 hx hy rfl rfl hb hs
theorem ew(hx:un g (S.get C x)= .val (.int k a):=by first|exact rfl|exact bz)(hy:un g (S.get C y)= .val (.int k b):=by first|exact rfl|exact bz):aR C f call S g ⟨some d, .binOp .add T x y bP,ty,pos,aD,aS⟩=some ⟨[(d, .val (.int k (k.wrap (a+b))))],[],[]⟩:=kP RC rfl hx hy
theorem fR(hx:un g (S.get C x)= .val (.int k a):=by first|exact rfl|exact bz)(hy:un g (S.get C y)= .val (.int k b):=by first|exact rfl|exact bz):aR C f call S g ⟨some d, .binOp .sub T x y bP,ty,pos,aD,aS⟩=some ⟨[(d, .val (.int k (k.wrap (a-b))))],[],[]⟩:=kP RR rfl hx hy
theorem LY(hx:un g (S.get C x)= .val (.int k a):=by first|exact rfl|exact bz)(hy:un g (S.get C y)= .val (.int k b):=by first|exact rfl|exact bz):aR C f call S g ⟨some d, .binOp .mul T x y bP,ty,pos,aD,aS⟩=some ⟨[(d, .val (.int k (k.wrap (a*b))))],[],[]⟩:=kP RL rfl hx hy
theorem az(hx:un g (S.get C x)= .val (.int k a):=by first|exact rfl|exact bz)(hy:un g (S.get C y)= .val (.int k b):=by first|exact rfl|exact bz):aR C f call S g ⟨some d, .binOp .eql T x y bP,ty,pos,aD,aS⟩=some ⟨[(d, .val (.bool (a==b)))],[],[]⟩:=kP RD rfl hx hy
theorem ic(hx:un g (S.get C x)= .val (.int k a):=by first|exact rfl|exact bz)(hy:un g (S.get C y)= .val (.int k b):=by first|exact rfl|exact bz):aR C f call S g ⟨some d, .binOp .neq T x y bP,ty,pos,aD,aS⟩=some ⟨[(d, .val (.bool (a !=b)))],[],[]⟩:=kP RM rfl hx hy
theorem eF(hx:un g (S.get C x)= .val (.int k a):=by first|exact rfl|exact bz)(hy:un g (S.get C y)= .val (.int k b):=by first|exact rfl|exact bz):aR C f call S g ⟨some d, .binOp .lss T x y bP,ty,pos,aD,aS⟩=some ⟨[(d, .val (.bool (decide (a<b))))],[],[]⟩:=kP RJ rfl hx hy
theorem eM(hx:un g (S.get C x)= .val (.int k a):=by first|exact rfl|exact bz)(hy:un g (S.get C y)= .val (.int k b):=by first|exact rfl|exact bz):aR C f call S g ⟨some d, .binOp .leq T x y bP,ty,pos,aD,aS⟩=some ⟨[(d, .val (.bool (decide (a≤b))))],[],[]⟩:=kP RI rfl hx hy
theorem ia(hx:un g (S.get C x)= .val (.int k a):=by first|exact rfl|exact bz)(hy:un g (S.get C y)= .val (.int k b):=by first|exact rfl|exact bz):aR C f call S g ⟨some d, .binOp .gtr T x y bP,ty,pos,aD,aS⟩=some ⟨[(d, .val (.bool (decide (b<a))))],[],[]⟩:=kP RH rfl hx hy
theorem eL(hx:un g (S.get C x)= .val (.int k a):=by first|exact rfl|exact bz)(hy:un g (S.get C y)= .val (.int k b):=by first|exact rfl|exact bz):aR C f call S g ⟨some d, .binOp .geq T x y bP,ty,pos,aD,aS⟩=some ⟨[(d, .val (.bool (decide (b≤a))))],[],[]⟩:=kP RG rfl hx hy
theorem RF{P:Program}{a b:ByteArray}:cV P .eql T x y (.string a) (.string b)=some (.bool (a.toList==b.toList)):=by simp[cV,eqGuard,binOp,Op.stringOp,bY,bind,Sem.bind,pure]
theorem RN{P:Program}{a b:ByteArray}:cV P .neq T x y (.string a) (.string b)=some (.bool (a.toList !=b.toList)):=by simp[cV,eqGuard,binOp,Op.stringOp,bY,bind,Sem.bind,pure,bne]
theorem ep{a b:ByteArray}(hx:un g (S.get C x)= .val (.string a):=by first|exact rfl|exact bz)(hy:un g (S.get C y)= .val (.string b):=by first|exact rfl|exact bz):aR C f call S g ⟨some d, .binOp .eql T x y bP,ty,pos,aD,aS⟩=some ⟨[(d, .val (.bool (a.toList==b.toList)))],[],[]⟩:=j9 hx hy rfl rfl RF rfl
theorem FW{a b:ByteArray}(hx:un g (S.get C x)= .val (.string a):=by first|exact rfl|exact bz)(hy:un g (S.get C y)= .val (.string b):=by first|exact rfl|exact bz):aR C f call S g ⟨some d, .binOp .neq T x y bP,ty,pos,aD,aS⟩=some ⟨[(d, .val (.bool (a.toList !=b.toList)))],[],[]⟩:=j9 hx hy rfl rfl RN rfl
theorem RE{P:Program}{a b:Bool}(hu:P.underlying T=some .bool):cV P .eql T x y (.bool a) (.bool b)=some (.bool (a==b)):=by have e:cV P .eql T x y (.bool a) (.bool b)=bY P (do pure (.bool (←Op.equal T (.bool a) (.bool b)))):=rfl;rw[e,eZ];unfold Op.equal Op.maxDepth;rw[MC (d:=9999) hu rfl rfl];rfl
theorem Zl{a b:Bool}[hu:cy C T .bool](hx:un g (S.get C x)= .val (.bool a):=by first|exact rfl|exact bz)(hy:un g (S.get C y)= .val (.bool b):=by first|exact rfl|exact bz):aR C f call S g ⟨some d, .binOp .eql T x y bP,ty,pos,aD,aS⟩=some ⟨[(d, .val (.bool (a==b)))],[],[]⟩:=j9 hx hy rfl rfl (RE hu.ul) rfl
theorem BU{op:BinOp}{xs ys:List U}{vx vy:List Value}{q:Bool}(hb:cV C.P op T x y (.agg ⟨vx⟩) (.agg ⟨vy⟩)=some (.bool q))(hx:un g (S.get C x)= .agg xs:=by first|exact rfl|exact bz)(hy:un g (S.get C y)= .agg ys:=by first|exact rfl|exact bz)(h1:gp xs=some vx:=by exact rfl)(h2:gp ys=some vy:=by exact rfl):aR C f call S g ⟨some d, .binOp op T x y bP,ty,pos,aD,aS⟩=some ⟨[(d, .val (.bool q))],[],[]⟩:=j9 hx hy (by simp[jr,h1]) (by simp[jr,h2]) hb rfl
theorem fG{p:Bool}(hx:un g (S.get C x)= .val (.bool p):=by first|exact rfl|exact bz):aR C f call S g ⟨some d, .unOp .not T x,ty,pos,aD,aS⟩=some ⟨[(d, .val (.bool !p))],[],[]⟩:=by show su C _ .not (un g (S.get C x))=_;rw[hx];rfl
theorem L2{op:UnOp}{dL ki:Value}(hb:wI C.P op dL=some ki)(hs:dc ki=true)(hx:un g (S.get C x)= .val dL:=by first|exact rfl|exact bz):aR C f call S g ⟨some d, .unOp op T x,ty,pos,aD,aS⟩=some ⟨[(d, .val ki)],[],[]⟩:=by show su C _ op (un g (S.get C x))=_;rw[hx];simp[hb,hs]
theorem Zk{dL ki:Value}(hb:AQ C.P T bP dL=some ki)(hx:un g (S.get C x)= .val dL:=by first|exact rfl|exact bz)(hs:dc ki=true:=by exact rfl)(hnb:qf C T bP=false:=by first|rfl|decide):aR C f call S g ⟨some d, .convert T bP x,ty,pos,aD,aS⟩=some ⟨[(d, .val ki)],[],[]⟩:=by show oS C _ T bP (un g (S.get C x))=_;rw[hx,TO hnb];simp[hb,hs]
theorem bp{p q r:Bool}(hx:un g (S.get C x)= .val (.bool p):=by first|exact rfl|exact bz)(hy:un (g&&p) (S.get C y)= .val (.bool q):=by first|exact rfl|exact bz)(hz:un (g&& !p) (S.get C z)= .val (.bool r):=by first|exact rfl|exact bz):aR C f call S g ⟨some d, .pick x y z,ty,pos,aD,aS⟩=some ⟨[(d, .val (.bool (if p then q else r)))],[],[]⟩:=by show qq _ (un g (S.get C x)) (un (g&&jQ (un g (S.get C x))) (S.get C y)) (un (g&& !jQ (un g (S.get C x))) (S.get C z))=_;rw[hx];simp only[jQ];rw[hy,hz];rfl
theorem b8{q:Bool}(hx:un g (S.get C x)= .val (.bool true):=by exact rfl)(hy:un (g&&true) (S.get C y)= .val (.bool q):=by first|exact rfl|exact bz):aR C f call S g ⟨some d, .pick x y z,ty,pos,aD,aS⟩=some ⟨[(d, .val (.bool q))],[],[]⟩:=by show qq _ (un g (S.get C x)) (un (g&&jQ (un g (S.get C x))) (S.get C y)) (un (g&& !jQ (un g (S.get C x))) (S.get C z))=_;rw[hx];simp only[jQ];rw[hy];generalize un (g&& !true) (S.get C z)=w;cases w with|val v=>(cases v<;>rfl)|_=>rfl
theorem bG{q:Bool}(hx:un g (S.get C x)= .val (.bool false):=by exact rfl)(hz:un (g&&true) (S.get C z)= .val (.bool q):=by first|exact rfl|exact bz):aR C f call S g ⟨some d, .pick x y z,ty,pos,aD,aS⟩=some ⟨[(d, .val (.bool q))],[],[]⟩:=by show qq _ (un g (S.get C x)) (un (g&&jQ (un g (S.get C x))) (S.get C y)) (un (g&& !jQ (un g (S.get C x))) (S.get C z))=_;rw[hx];simp only[jQ,Bool.not_false];rw[hz];generalize un (g&&false) (S.get C y)=w;cases w with|val v=>(cases v<;>rfl)|_=>rfl
/-! ### Memory that does not change -/
theorem kO{bb:Bool}{m:Nat}{cs cs':List U}[ha:cu C T bb m](hin:(C.dB f).contains d=true:=by exact rfl)(hx:un g (S.get C x)=v:=by exact gt)(hc:k5 bb v=some cs:=by exact rfl)(hz:iS cs=cs':=by exact spine)(hi:c9 cs'=true:=by exact rfl):aR C f call S g ⟨some d, .box T x,ty,pos,aD,aS⟩=some ⟨[(d, .ay cs')],[],[]⟩:=by show mV C f S _ T (un g (S.get C x))=_;simp only[mV,ha.ja,hx,hc,dI,hin,hz,hi,Bool.and_self,if_true];rfl
theorem aB{m:Nat}{cells cs:List U}[ha:cu C T false m](hx:un g (S.get C x)= .ay cells:=by first|exact rfl|exact bz)(hm:m=1:=by exact rfl)(hv:cells=v::cs:=by exact rfl):aR C f call S g ⟨some d, .load T x,ty,pos,aD,aS⟩=some ⟨[(d,v)],[],[]⟩:=by show jU C S _ T (un g (S.get C x))=_;subst hm hv;simp[jU,ha.ja,ha.sz,hx,gN]
theorem ey{m:Nat}{cells cs:List U}[ha:cu C T true m](hx:un g (S.get C x)= .ay cells:=by first|exact rfl|exact bz)(hl:GE m cells.length=true:=by exact rfl)(hv:cells.take m=cs:=by exact spine):aR C f call S g ⟨some d, .load T x,ty,pos,aD,aS⟩=some ⟨[(d, .agg cs)],[],[]⟩:=by show jU C S _ T (un g (S.get C x))=_;have hl':m≤cells.length:=GT hl;simp[jU,ha.ja,ha.sz,hx,hl',hv,gN]
theorem aN{i off m:Nat}{bb:Bool}{cells:List U}[hf:Fd C T i off m bb](hx:un g (S.get C x)= .ay cells:=by first|exact rfl|exact bz)(h0:Ha 0 m=true:=by exact rfl)(hl:GE off cells.length=true:=by exact rfl)(hz:(C.dB f).contains d=false:=by exact rfl):aR C f call S g ⟨some d, .fieldAddr T x i,ty,pos,aD,aS⟩=some ⟨[(d, .ay (cells.drop off))],[],[]⟩:=by show nV C f _ T i (un g (S.get C x))=_;have hl':off≤cells.length:=GT hl;have h0':0<m:=of_decide_eq_true (jP h0);simp only[nV,hf.fd,hx,dI,hz];rw[AC ⟨h0',hl'⟩];rfl
theorem Zn{i off m:Nat}{bb:Bool}{cells cs:List U}[hf:Fd C T i off m bb](hx:un g (S.get C x)= .ay cells:=by first|exact rfl|exact bz)(h0:Ha 0 m=true:=by exact rfl)(hl:GE (off+m) cells.length=true:=by exact rfl)(hz:(C.dB f).contains d=true:=by exact rfl)(hc:(cells.drop off).take m=cs:=by exact spine):aR C f call S g ⟨some d, .fieldAddr T x i,ty,pos,aD,aS⟩=some ⟨[(d, .ay cs)],[],[]⟩:=by show nV C f _ T i (un g (S.get C x))=_;have hl':off+m≤cells.length:=GT hl;have h0':0<m:=of_decide_eq_true (jP h0);simp only[nV,hf.fd,hx,dI,hz,if_true];rw[AC ⟨h0',by omega⟩,AC hl',hc];rfl
theorem FT{i off m:Nat}{cells cs:List U}[hf:Fd C T i off m false](hx:un g (S.get C x)= .agg cells:=by first|exact rfl|exact bz)(hm:m=1:=by exact rfl)(hv:cells.drop off=v::cs:=by exact rfl)(hl:GE (off+1) cells.length=true:=by exact rfl):aR C f call S g ⟨some d, .field T x i,ty,pos,aD,aS⟩=some ⟨[(d,v)],[],[]⟩:=by show uM C _ T i (un g (S.get C x))=_;subst hm;have hl':off+1≤cells.length:=GT hl;simp[uM,hf.fd,hx,hl',hv,gN]
theorem e7{e:TypeId}{m:Nat}{bb:Bool}{α:Type}{c:α→List U}{q:List α}{i:Int}{r:α}(hi:idx q i=some r)[hu:cy C T (.slice e)][hs:cu C e bb m](hx:un g (S.get C x)= .sl (q.map c):=by first|exact rfl|exact bz)(hy:un g (S.get C y)= .val (.int k i):=by first|exact rfl|exact bz)(h0:Ha 0 m=true:=by exact rfl)(hr:(c r).length=m:=by exact rfl):aR C f call S g ⟨some d, .indexAddr T x y,ty,pos,aD,aS⟩=some ⟨[(d, .ay (c r))],[],[]⟩:=by show k6 C S _ T (un g (S.get C x)) (dr (un g (S.get C y)))=_;have h0':0<m:=of_decide_eq_true (jP h0);have h1:=Fg (c:=c) hi;unfold idx at h1;split at h1;·{rename_i hp;simp only[hx,hy,dr,k6,hu.ul,hs.sz,AC hp,h1,Hb];simp[hr,h0']};·cases h1
def cU(s:ByteArray)(i:Int):Option UInt8:=if 0≤i then s[i.toNat]? else none
theorem dw{s:ByteArray}{i:Int}{r:UInt8}(hi:cU s i=some r)[hu:cy C T .string](hx:un g (S.get C x)= .val (.string s):=by first|exact rfl|exact bz)(hy:un g (S.get C y)= .val (.int k i):=by first|exact rfl|exact bz):aR C f call S g ⟨some d, .index T x y,ty,pos,aD,aS⟩=some ⟨[(d, .val (.int .u8 r.toNat))],[],[]⟩:=by show qo C _ T (un g (S.get C x)) (dr (un g (S.get C y)))=_;unfold cU at hi;split at hi;·{rename_i hp;simp only[hx,hy,dr,qo,hu.ul,AC hp,hi,Hb];rfl};·cases hi
section
variable{e:TypeId}{xs:Array Operand}{ts:Array TypeId}{T:TypeId}
theorem dJ{α:Type}{c:α→List U}{q:List α}(hx:un g (S.get C x)= .sl (q.map c):=by first|exact rfl|exact bz)[hu:cy C T (.slice e)]:aR C f call S g ⟨some d, .call ⟨.builtin .len,⟨[x]⟩,⟨[T]⟩⟩,ty,pos,aD,aS⟩=some ⟨[(d, .val (.int .i64 q.length))],[],[]⟩:=by show nW C _ _ ([x].map fun x=>un g (S.get C x))=_;simp[hx,nW,hu.ul,yW,yX,qs]
theorem vI{id:Id}{off m m':Nat}(hx:un g (S.get C x)= .rs id off m':=by first|exact rfl|exact bz)(hm:m'=m:=by first|exact List.length_map _|exact rfl)[hu:cy C T (.slice e)]:aR C f call S g ⟨some d, .call ⟨.builtin .len,⟨[x]⟩,⟨[T]⟩⟩,ty,pos,aD,aS⟩=some ⟨[(d, .val (.int .i64 m))],[],[]⟩:=by show nW C _ _ ([x].map fun x=>un g (S.get C x))=_;simp[hx,nW,hu.ul,yW,yX,qs,hm]
theorem fQ{s:ByteArray}(hx:un g (S.get C x)= .val (.string s):=by first|exact rfl|exact bz)[hu:cy C T .string]:aR C f call S g ⟨some d, .call ⟨.builtin .len,⟨[x]⟩,⟨[T]⟩⟩,ty,pos,aD,aS⟩=some ⟨[(d, .val (.int .i64 s.size))],[],[]⟩:=by show nW C _ _ ([x].map fun x=>un g (S.get C x))=_;simp[hx,nW,hu.ul,yW,qs]
end
theorem ME:([]:List (Nat×Operand)).map (fun p=>(p.1,un g (S.get C p.2)))=[]:=rfl
theorem aa9{i:Nat}{l:List (Nat×Operand)}{l':List (Nat×U)}(hx:un g (S.get C x)=v)(k:l.map (fun p=>(p.1,un g (S.get C p.2)))=l'):((i,x)::l).map (fun p=>(p.1,un g (S.get C p.2)))=(i,v)::l':=by simp[hx,k]
theorem Ca{l:List (Nat×Operand)}{l':List (Nat×U)}(h:l.map (fun p=>(p.1,un g (S.get C p.2)))=l':=by repeat(first|exact ME|(apply aa9;exact gt))):l.map (fun p=>(p.1,un g (S.get C p.2)))=l':=h
theorem de{p:List (Nat×Operand)}{eR cs cs0:List U}{pl:List (Nat×Nat×Bool)}{ps:List (Nat×U)}[hz:iN C T eR][hp:Pl C T pl](hq:(p.map fun p=>(p.1,un g (S.get C p.2)))=ps:=by exact Ca)(hf:sv pl eR ps=some cs0:=by exact rfl)(hc:cs0=cs:=by exact spine)(hO:C.rF f d=[]:=by exact rfl):aR C f call S g ⟨some d, .build T ⟨p⟩,ty,pos,aD,aS⟩=some ⟨[(d, .agg cs)],[],[]⟩:=by show ql C f _ T (p.map fun p=>(p.1,un g (S.get C p.2)))=_;rw[hq];simp[ql,hz.eR,hp.pl,hf,hc,zX,hO,rG]
theorem jG{p:List (Nat×Operand)}{eR Od cs cs0:List U}{l:List Nat}{pl:List (Nat×Nat×Bool)}{ps:List (Nat×U)}[hz:iN C T eR][hp:Pl C T pl](hO:C.rF f d=l:=by exact rfl)(vl:rG l eR=Od:=by exact rfl)(hq:(p.map fun p=>(p.1,un g (S.get C p.2)))=ps:=by exact Ca)(hf:sv pl Od ps=some cs0:=by exact rfl)(hc:cs0=cs:=by exact spine):aR C f call S g ⟨some d, .build T ⟨p⟩,ty,pos,aD,aS⟩=some ⟨[(d, .agg cs)],[],[]⟩:=by subst vl;show ql C f _ T (p.map fun p=>(p.1,un g (S.get C p.2)))=_;rw[hq];simp[ql,hz.eR,hp.pl,hf,hc,zX,hO]
theorem vH{cK:Fn}{fs cs:Array Operand}{fa fb:List U}(ha:(fs.toList.map fun x=>un g (S.get C x))=fa:=by exact spine)(hb:(cs.toList.map fun x=>un g (S.get C x))=fb:=by exact spine):aR C f call S g ⟨some d, .makeFunc cK fs cs,ty,pos,aD,aS⟩=some ⟨[(d, .fn cK fa fb)],[],[]⟩:=by subst ha hb;rfl
theorem cT{vs:List U}{i:Nat}(hx:un g (S.get C x)= .aG vs:=by first|exact rfl|exact bz)(hi:vs[i]? =some v:=by exact rfl):aR C f call S g ⟨some d, .extract x i,ty,pos,aD,aS⟩=some ⟨[(d,v)],[],[]⟩:=by show uL _ (un g (S.get C x)) i=_;rw[hx];simp[uL,hi]
theorem eG(hx:un g (S.get C x)=v:=by exact gt)(hv:(match v with| .ay _| .mp _ _ _| .fn (.func _) _ _=>true|_=>false)=true:=by exact rfl):aR C f call S g ⟨some d, .nilCheck x,ty,pos,aD,aS⟩=some ⟨[(d,v)],[],[]⟩:=by show uN _ (un g (S.get C x))=_;rw[hx];cases v with|fn cK a b=>(cases cK<;>first|rfl|cases hv)|ay _=>(rfl)|mp _ _ _=>(rfl)|_=>cases hv
theorem YE{P:Program}{ts:Array TypeId}{k:IntKind}{a b:Int}:BH P ts ty [.int k a, .int k b]=some (.int k (max a b)):=by have e:(if b>a then b else a)=max a b:=by{omega};simp[BH,Builtin.max_,Builtin.max2,bY,List.foldlM,bind,Sem.bind,pure,e]
theorem YF{P:Program}{ts:Array TypeId}{k:IntKind}{a b:Int}:BI P ts ty [.int k a, .int k b]=some (.int k (min a b)):=by have e:(if b<a then b else a)=min a b:=by{omega};simp[BI,Builtin.min_,Builtin.min2,bY,List.foldlM,bind,Sem.bind,pure,e]
theorem FV{k:IntKind}{a b:Int}{ts:Array TypeId}(hx:un g (S.get C x)= .val (.int k a):=by first|exact rfl|exact bz)(hy:un g (S.get C y)= .val (.int k b):=by first|exact rfl|exact bz):aR C f call S g ⟨some d, .call ⟨.builtin .max,⟨[x,y]⟩,ts⟩,ty,pos,aD,aS⟩=some ⟨[(d, .val (.int k (max a b)))],[],[]⟩:=by show(match gp ([x,y].map fun x=>un g (S.get C x))with|some vs=>iI _ (BH C.P ts ty vs)|none=>none)=_;simp only[Hc,List.map_nil,hx,hy,gp,Hd,YE];rfl
theorem LX{k:IntKind}{a b:Int}{ts:Array TypeId}(hx:un g (S.get C x)= .val (.int k a):=by first|exact rfl|exact bz)(hy:un g (S.get C y)= .val (.int k b):=by first|exact rfl|exact bz):aR C f call S g ⟨some d, .call ⟨.builtin .min,⟨[x,y]⟩,ts⟩,ty,pos,aD,aS⟩=some ⟨[(d, .val (.int k (min a b)))],[],[]⟩:=by show(match gp ([x,y].map fun x=>un g (S.get C x))with|some vs=>iI _ (BI C.P ts ty vs)|none=>none)=_;simp only[Hc,List.map_nil,hx,hy,gp,Hd,YF];rfl
/-! ### Parts of slices and strings -/
def slc{α:Type}(l:List α)(lo hi:Option Int):Option (List α):=(bounds (lo.map some) (hi.map some) l.length).map fun p=>(l.take p.2).drop p.1
def gT(s:ByteArray)(lo hi:Option Int):Option ByteArray:=(bounds (lo.map some) (hi.map some) s.size).map fun p=>s.extract p.1 p.2
theorem AE:(none.map fun y=>dr (un g (S.get C y)))=(none:Option Int).map some:=rfl
theorem AF{n:Int}(h:un g (S.get C y)= .val (.int k n):=by first|exact rfl|exact bz):((some y).map fun y=>dr (un g (S.get C y)))=(some n).map some:=by show some (dr (un g (S.get C y)))=_;rw[h];rfl
theorem C7{α:Type}{c:α→List U}{q:List α}{m:Nat}(hc:∀x,(c x).length=m):(q.map c).all (·.length==m)=true:=by simp[hc]
theorem Zq{e:TypeId}{α:Type}{c:α→List U}{q r:List α}{lo hi:Option Operand}{lo' hi':Option Int}{m:Nat}{bb:Bool}(hr:slc q lo' hi'=some r)[hu:cy C T (.slice e)][hs:cu C e bb m](hx:un g (S.get C x)= .sl (q.map c):=by first|exact rfl|exact bz)(h1:(lo.map fun y=>dr (un g (S.get C y)))=lo'.map some:=by first|exact AE|exact AF)(h2:(hi.map fun y=>dr (un g (S.get C y)))=hi'.map some:=by first|exact AE|exact AF)(h0:Ha 0 m=true:=by exact rfl)(hl:∀x,(c x).length=m:=by exact fun _=>rfl):aR C f call S g ⟨some d, .slice T x lo hi none,ty,pos,aD,aS⟩=some ⟨[(d, .sl (r.map c))],[],[]⟩:=by unfold slc at hr;obtain⟨p,hp,rfl⟩:=Option.map_eq_some_iff.1 hr;show mX C S _ T (un g (S.get C x)) _ _=_;have h0':0<m:=of_decide_eq_true (jP h0);rw[hx];simp only[mX,hu.ul,hs.sz,h1,h2,List.length_map,hp,Hb];rw[AC ⟨h0',C7 hl⟩];simp[ret,put]
theorem jm{s r:ByteArray}{lo hi:Option Operand}{lo' hi':Option Int}(hr:gT s lo' hi'=some r)[hu:cy C T .string](hx:un g (S.get C x)= .val (.string s):=by first|exact rfl|exact bz)(h1:(lo.map fun y=>dr (un g (S.get C y)))=lo'.map some:=by first|exact AE|exact AF)(h2:(hi.map fun y=>dr (un g (S.get C y)))=hi'.map some:=by first|exact AE|exact AF):aR C f call S g ⟨some d, .slice T x lo hi none,ty,pos,aD,aS⟩=some ⟨[(d, .val (.string r))],[],[]⟩:=by show mX C S _ T (un g (S.get C x)) (lo.map fun y=>dr (un g (S.get C y))) (hi.map fun y=>dr (un g (S.get C y)))=_;unfold gT at hr;obtain⟨p,hp,rfl⟩:=Option.map_eq_some_iff.1 hr;rw[hx,h1,h2];simp only[mX,hu.ul,hp,Hb];rfl
end
end Go.Ab
