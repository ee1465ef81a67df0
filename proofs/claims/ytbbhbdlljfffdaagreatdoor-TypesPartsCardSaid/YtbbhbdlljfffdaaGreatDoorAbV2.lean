import Derived.Test.YtbbhbdlljfffdaaGreatDoorAbEqS
open List renaming map_cons→GE
open Nat renaming le_of_ble_eq_true→Do
open Option renaming bind_some→AC,map_some→GT
set_option linter.all false
namespace Go.Ab
open Go
inductive dm where|nil|code(n:Int)|other deriving DecidableEq,Inhabited
def gC(t:TypeId):dm→U| .nil=> .val .nilIface| .code n=> .val (.iface t (.int .i64 n))| .other=> .nn
/-! ### Facts about the program's types, found by their numbers -/
class c9(C:aF)(t:TypeId)(d:outParam TypeDesc):Prop where ul:C.P.underlying t=some d
class cR(C:aF)(t:TypeId)(b:outParam Bool)(n:outParam Nat):Prop where
 jZ:kV C t=some b
 sz:gQ C t=some n
class Fd(C:aF)(t i:Nat)(off n:outParam Nat)(b:outParam Bool):Prop where fd:Bi C t i=some (off,n,b)
class jY(C:aF)(t:TypeId)(cs:outParam (List U)):Prop where fY:xT C t=some cs
class oJ(C:aF)(t:TypeId)(cs:outParam (List U)):Prop where TW:xU C t=some cs
class Pl(C:aF)(t:TypeId)(pl:outParam (List (Nat×Nat×Bool))):Prop where pl:Lf C t=some pl
def AX(C:aF)(e:TypeId)(m:Nat):Bool:=match C.P.info? e with|some i=>i.size==m&&decide (0<m)&&decide (i.bytes≤4096)&&DD i|none=>false
class qI(C:aF)(e:TypeId)(m:outParam Nat):Prop where ao:AX C e m=true
class iH{α:Type}(c:α→List U):Prop where fl:∀x,cK (c x)=true
class pS{α:Type}(c:α→List U):Prop where
 im:∀x,ew (c x)=true
 ce:∀x,(c x).all U.cell=true
class DM{α:Type}(c:α→List U)(c':outParam (α→List U)):Prop where dJ:∀x,jE (c x)=c' x
class MC{α:Type}(c:α→List U):Prop where mi:∀x,jK (c x)=true
section
variable{g g' h k:Bool}{x:U}
theorem Gy{t:TypeId}{e:dm}:un g (gC t e)=gC t e:=by cases e<;>cases g<;>rfl
theorem ajm{p:Bool}:un (true&&p) (.c8 (p==true) x)=x:=by cases p<;>rfl
theorem ajn{p:Bool}:un (true&& !p) (.c8 (p==false) x)=x:=by cases p<;>rfl
theorem ajo{p:Bool}:un (g&&p) (.c8 (g&&(p==true)) x)=x:=by cases p<;>cases g<;>rfl
theorem ajp{p:Bool}:un (g&& !p) (.c8 (g&&(p==false)) x)=x:=by cases p<;>cases g<;>rfl
end
theorem ck{a b:U}(h:a=b:=by first|exact Tw _|exact Gy|exact ajl|exact an8|exact ajm|exact ajn|exact ajo|exact ajp|exact anX|exact anY|exact an1|exact anZ|exact an0):a=b:=h
theorem gt{a b:U}(h:a=b:=by first|exact(rfl:_=U.val _)|exact(rfl:_=U.sl _)|exact(rfl:_=U.rs _ _ _)|exact(rfl:_=U.mp _ _ _)|exact(rfl:_=U.aI _)|exact(rfl:_=U.agg _)|exact(rfl:_=U.cu)|exact(rfl:_=U.aT _)|exact(rfl:_=U.fn _ _ _)|exact Gy|exact ajl|exact(rfl:_=U.nn)|exact(rfl:_=U.mr _)|exact(rfl:_=U.im _)|exact(rfl:_=U.ep _)|exact ck):a=b:=h
theorem aiG{α:Type}{a:α}{l t t':List α}(h:l=a::t)(k:t=t'):l=a::t':=by rw[h,k]
theorem aiH{α:Type}{l:List α}(h:l=[]:=by exact rfl):l=[]:=h
theorem spine{α:Type}{a b:List α}(h:a=b:=by repeat(first|exact aiH|apply aiG rfl)):a=b:=h
theorem Qy{α:Type}{o:Option α}(h:o=none):o.isNone=true:=by rw[h];rfl
section
variable{C:aF}{f:FuncId}{call:fO}{S:ah}{g:Bool}
variable{d:Nat}{ty:TypeId}{pos:String}{aV:Array Edge}{bD:Option (Nat×Bool)}{v v':U}
variable{x y z:Operand}{k:IntKind}{a b:Int}{T an:TypeId}
theorem aa(h:un g (S.get C x)=v:=by exact gt):bC C f call S g ⟨some d, .move x,ty,pos,aV,bD⟩=some ⟨[(d,v)],[],[]⟩:=by subst h;rfl
theorem af(h:un g (S.get C x)=v:=by exact gt):bC C f call S g ⟨some d, .assign x,ty,pos,aV,bD⟩=some ⟨[(d,v)],[],[]⟩:=by subst h;rfl
theorem om{op:BinOp}{Ns Nt:U}{eP hJ mS:Value}(hx:un g (S.get C x)=Ns)(hy:un g (S.get C y)=Nt)(h1:ox Ns=some eP)(h2:ox Nt=some hJ)(hb:eR C.P op T x y eP hJ=some mS)(hs:ey mS=true):bC C f call S g ⟨some d, .binOp op T x y an,ty,pos,aV,bD⟩=some ⟨[(d, .val mS)],[],[]⟩:=by show sA C _ op T x y (un g (S.get C x)) (un g (S.get C y))=_;rw[hx,hy];simp[sA,h1,h2,hb,hs]
theorem qw{op:BinOp}{mS:Value}(hb:eR C.P op T x y (.int k a) (.int k b)=some mS)(hs:ey mS=true)(hx:un g (S.get C x)= .val (.int k a))(hy:un g (S.get C y)= .val (.int k b)):bC C f call S g ⟨some d, .binOp op T x y an,ty,pos,aV,bD⟩=some ⟨[(d, .val mS)],[],[]⟩:=om hx hy rfl rfl hb hs
theorem eI(hx:un g (S.get C x)= .val (.int k a):=by first|exact rfl|exact ck)(hy:un g (S.get C y)= .val (.int k b):=by first|exact rfl|exact ck):bC C f call S g ⟨some d, .binOp .add T x y an,ty,pos,aV,bD⟩=some ⟨[(d, .val (.int k (k.wrap (a+b))))],[],[]⟩:=qw Xo rfl hx hy
theorem fm(hx:un g (S.get C x)= .val (.int k a):=by first|exact rfl|exact ck)(hy:un g (S.get C y)= .val (.int k b):=by first|exact rfl|exact ck):bC C f call S g ⟨some d, .binOp .sub T x y an,ty,pos,aV,bD⟩=some ⟨[(d, .val (.int k (k.wrap (a-b))))],[],[]⟩:=qw XA rfl hx hy
theorem afE(hx:un g (S.get C x)= .val (.int k a):=by first|exact rfl|exact ck)(hy:un g (S.get C y)= .val (.int k b):=by first|exact rfl|exact ck):bC C f call S g ⟨some d, .binOp .mul T x y an,ty,pos,aV,bD⟩=some ⟨[(d, .val (.int k (k.wrap (a*b))))],[],[]⟩:=qw Xv rfl hx hy
theorem aC(hx:un g (S.get C x)= .val (.int k a):=by first|exact rfl|exact ck)(hy:un g (S.get C y)= .val (.int k b):=by first|exact rfl|exact ck):bC C f call S g ⟨some d, .binOp .eql T x y an,ty,pos,aV,bD⟩=some ⟨[(d, .val (.bool (a==b)))],[],[]⟩:=qw Xp rfl hx hy
theorem gw(hx:un g (S.get C x)= .val (.int k a):=by first|exact rfl|exact ck)(hy:un g (S.get C y)= .val (.int k b):=by first|exact rfl|exact ck):bC C f call S g ⟨some d, .binOp .neq T x y an,ty,pos,aV,bD⟩=some ⟨[(d, .val (.bool (a !=b)))],[],[]⟩:=qw Xw rfl hx hy
theorem fk(hx:un g (S.get C x)= .val (.int k a):=by first|exact rfl|exact ck)(hy:un g (S.get C y)= .val (.int k b):=by first|exact rfl|exact ck):bC C f call S g ⟨some d, .binOp .lss T x y an,ty,pos,aV,bD⟩=some ⟨[(d, .val (.bool (decide (a<b))))],[],[]⟩:=qw Xu rfl hx hy
theorem gv(hx:un g (S.get C x)= .val (.int k a):=by first|exact rfl|exact ck)(hy:un g (S.get C y)= .val (.int k b):=by first|exact rfl|exact ck):bC C f call S g ⟨some d, .binOp .leq T x y an,ty,pos,aV,bD⟩=some ⟨[(d, .val (.bool (decide (a≤b))))],[],[]⟩:=qw Xt rfl hx hy
theorem jr(hx:un g (S.get C x)= .val (.int k a):=by first|exact rfl|exact ck)(hy:un g (S.get C y)= .val (.int k b):=by first|exact rfl|exact ck):bC C f call S g ⟨some d, .binOp .gtr T x y an,ty,pos,aV,bD⟩=some ⟨[(d, .val (.bool (decide (b<a))))],[],[]⟩:=qw Xs rfl hx hy
theorem fS(hx:un g (S.get C x)= .val (.int k a):=by first|exact rfl|exact ck)(hy:un g (S.get C y)= .val (.int k b):=by first|exact rfl|exact ck):bC C f call S g ⟨some d, .binOp .geq T x y an,ty,pos,aV,bD⟩=some ⟨[(d, .val (.bool (decide (b≤a))))],[],[]⟩:=qw Xr rfl hx hy
theorem Xq{P:Program}{a b:ByteArray}:eR P .eql T x y (.string a) (.string b)=some (.bool (a.toList==b.toList)):=by simp[eR,eqGuard,binOp,Op.stringOp,cY,bind,Sem.bind,pure]
theorem Xx{P:Program}{a b:ByteArray}:eR P .neq T x y (.string a) (.string b)=some (.bool (a.toList !=b.toList)):=by simp[eR,eqGuard,binOp,Op.stringOp,cY,bind,Sem.bind,pure,bne]
theorem ez{a b:ByteArray}(hx:un g (S.get C x)= .val (.string a):=by first|exact rfl|exact ck)(hy:un g (S.get C y)= .val (.string b):=by first|exact rfl|exact ck):bC C f call S g ⟨some d, .binOp .eql T x y an,ty,pos,aV,bD⟩=some ⟨[(d, .val (.bool (a.toList==b.toList)))],[],[]⟩:=om hx hy rfl rfl Xq rfl
theorem FP{a b:ByteArray}(hx:un g (S.get C x)= .val (.string a):=by first|exact rfl|exact ck)(hy:un g (S.get C y)= .val (.string b):=by first|exact rfl|exact ck):bC C f call S g ⟨some d, .binOp .neq T x y an,ty,pos,aV,bD⟩=some ⟨[(d, .val (.bool (a.toList !=b.toList)))],[],[]⟩:=om hx hy rfl rfl Xx rfl
theorem uM{op:BinOp}{xs ys:List U}{vx vy:List Value}{q:Bool}(hb:eR C.P op T x y (.agg ⟨vx⟩) (.agg ⟨vy⟩)=some (.bool q))(hx:un g (S.get C x)= .agg xs:=by first|exact rfl|exact ck)(hy:un g (S.get C y)= .agg ys:=by first|exact rfl|exact ck)(h1:iW xs=some vx:=by exact rfl)(h2:iW ys=some vy:=by exact rfl):bC C f call S g ⟨some d, .binOp op T x y an,ty,pos,aV,bD⟩=some ⟨[(d, .val (.bool q))],[],[]⟩:=om hx hy (by simp[ox,h1]) (by simp[ox,h2]) hb rfl
theorem gk{p:Bool}(hx:un g (S.get C x)= .val (.bool p):=by first|exact rfl|exact ck):bC C f call S g ⟨some d, .unOp .not T x,ty,pos,aV,bD⟩=some ⟨[(d, .val (.bool !p))],[],[]⟩:=by show we C _ .not (un g (S.get C x))=_;rw[hx];rfl
theorem afI{op:UnOp}{eP mS:Value}(hb:Dz C.P op eP=some mS)(hs:ey mS=true)(hx:un g (S.get C x)= .val eP:=by first|exact rfl|exact ck):bC C f call S g ⟨some d, .unOp op T x,ty,pos,aV,bD⟩=some ⟨[(d, .val mS)],[],[]⟩:=by show we C _ op (un g (S.get C x))=_;rw[hx];simp[hb,hs]
theorem afA{eP mS:Value}(hb:En C.P T an eP=some mS)(hx:un g (S.get C x)= .val eP:=by first|exact rfl|exact ck)(hs:ey mS=true:=by exact rfl)(hnb:tN C T an=false:=by first|rfl|decide):bC C f call S g ⟨some d, .convert T an x,ty,pos,aV,bD⟩=some ⟨[(d, .val mS)],[],[]⟩:=by show sC C _ T an (un g (S.get C x))=_;rw[hx,Zz hnb];simp[hb,hs]
theorem bO{p q r:Bool}(hx:un g (S.get C x)= .val (.bool p):=by first|exact rfl|exact ck)(hy:un (g&&p) (S.get C y)= .val (.bool q):=by first|exact rfl|exact ck)(hz:un (g&& !p) (S.get C z)= .val (.bool r):=by first|exact rfl|exact ck):bC C f call S g ⟨some d, .pick x y z,ty,pos,aV,bD⟩=some ⟨[(d, .val (.bool (if p then q else r)))],[],[]⟩:=by show tY _ (un g (S.get C x)) (un (g&&mB (un g (S.get C x))) (S.get C y)) (un (g&& !mB (un g (S.get C x))) (S.get C z))=_;rw[hx];simp only[mB];rw[hy,hz];rfl
theorem cy{q:Bool}(hx:un g (S.get C x)= .val (.bool true):=by exact rfl)(hy:un (g&&true) (S.get C y)= .val (.bool q):=by first|exact rfl|exact ck):bC C f call S g ⟨some d, .pick x y z,ty,pos,aV,bD⟩=some ⟨[(d, .val (.bool q))],[],[]⟩:=by show tY _ (un g (S.get C x)) (un (g&&mB (un g (S.get C x))) (S.get C y)) (un (g&& !mB (un g (S.get C x))) (S.get C z))=_;rw[hx];simp only[mB];rw[hy];generalize un (g&& !true) (S.get C z)=w;cases w with|val v=>(cases v<;>rfl)|_=>rfl
theorem bP{q:Bool}(hx:un g (S.get C x)= .val (.bool false):=by exact rfl)(hz:un (g&&true) (S.get C z)= .val (.bool q):=by first|exact rfl|exact ck):bC C f call S g ⟨some d, .pick x y z,ty,pos,aV,bD⟩=some ⟨[(d, .val (.bool q))],[],[]⟩:=by show tY _ (un g (S.get C x)) (un (g&&mB (un g (S.get C x))) (S.get C y)) (un (g&& !mB (un g (S.get C x))) (S.get C z))=_;rw[hx];simp only[mB,Bool.not_false];rw[hz];generalize un (g&&false) (S.get C y)=w;cases w with|val v=>(cases v<;>rfl)|_=>rfl
/-! ### Memory that does not change -/
theorem s9{bb:Bool}{m:Nat}{cs cs':List U}[ha:cR C T bb m](hin:(C.eD f).contains d=true:=by exact rfl)(hx:un g (S.get C x)=v:=by exact gt)(hc:oO bb v=some cs:=by exact rfl)(hz:kZ cs=cs':=by exact spine)(hi:ew cs'=true:=by exact rfl):bC C f call S g ⟨some d, .box T x,ty,pos,aV,bD⟩=some ⟨[(d, .aI cs')],[],[]⟩:=by show p6 C f S _ T (un g (S.get C x))=_;simp only[p6,ha.jZ,hx,hc,eK,hin,hz,hi,Bool.and_self,if_true];rfl
theorem ay{m:Nat}{cells cs:List U}[ha:cR C T false m](hx:un g (S.get C x)= .aI cells:=by first|exact rfl|exact ck)(hm:m=1:=by exact rfl)(hv:cells=v::cs:=by exact rfl):bC C f call S g ⟨some d, .load T x,ty,pos,aV,bD⟩=some ⟨[(d,v)],[],[]⟩:=by show lB C S _ T (un g (S.get C x))=_;subst hm hv;simp[lB,ha.jZ,ha.sz,hx,iR]
theorem eo{m:Nat}{cells cs:List U}[ha:cR C T true m](hx:un g (S.get C x)= .aI cells:=by first|exact rfl|exact ck)(hl:Nat.ble m cells.length=true:=by exact rfl)(hv:cells.take m=cs:=by exact spine):bC C f call S g ⟨some d, .load T x,ty,pos,aV,bD⟩=some ⟨[(d, .agg cs)],[],[]⟩:=by show lB C S _ T (un g (S.get C x))=_;have hl':m≤cells.length:=Do hl;simp[lB,ha.jZ,ha.sz,hx,hl',hv,iR]
theorem aD{i off m:Nat}{bb:Bool}{cells:List U}[hf:Fd C T i off m bb](hx:un g (S.get C x)= .aI cells:=by first|exact rfl|exact ck)(h0:Nat.blt 0 m=true:=by exact rfl)(hl:Nat.ble off cells.length=true:=by exact rfl)(hz:(C.eD f).contains d=false:=by exact rfl):bC C f call S g ⟨some d, .fieldAddr T x i,ty,pos,aV,bD⟩=some ⟨[(d, .aI (cells.drop off))],[],[]⟩:=by show tT C f _ T i (un g (S.get C x))=_;have hl':off≤cells.length:=Do hl;have h0':0<m:=of_decide_eq_true (lU h0);simp only[tT,hf.fd,hx,eK,hz];rw[if_pos ⟨h0',hl'⟩];rfl
theorem oe{i off m:Nat}{cells cs:List U}[hf:Fd C T i off m false](hx:un g (S.get C x)= .agg cells:=by first|exact rfl|exact ck)(hm:m=1:=by exact rfl)(hv:cells.drop off=v::cs:=by exact rfl)(hl:Nat.ble (off+1) cells.length=true:=by exact rfl):bC C f call S g ⟨some d, .field T x i,ty,pos,aV,bD⟩=some ⟨[(d,v)],[],[]⟩:=by show yJ C _ T i (un g (S.get C x))=_;subst hm;have hl':off+1≤cells.length:=Do hl;simp[yJ,hf.fd,hx,hl',hv,iR]
theorem cI{e:TypeId}{m:Nat}{bb:Bool}{α:Type}{c:α→List U}{q:List α}{i:Int}{r:α}(hi:idx q i=some r)[hu:c9 C T (.slice e)][hs:cR C e bb m](hx:un g (S.get C x)= .sl (q.map c):=by first|exact rfl|exact ck)(hy:un g (S.get C y)= .val (.int k i):=by first|exact rfl|exact ck)(h0:Nat.blt 0 m=true:=by exact rfl)(hr:(c r).length=m:=by exact rfl):bC C f call S g ⟨some d, .indexAddr T x y,ty,pos,aV,bD⟩=some ⟨[(d, .aI (c r))],[],[]⟩:=by show mD C S _ T (un g (S.get C x)) (ei (un g (S.get C y)))=_;have h0':0<m:=of_decide_eq_true (lU h0);have h1:=Ck (c:=c) hi;unfold idx at h1;split at h1;·{rename_i hp;simp only[hx,hy,ei,mD,hu.ul,hs.sz,if_pos hp,h1,AC];simp[hr,h0']};·cases h1
def dW(s:ByteArray)(i:Int):Option UInt8:=if 0≤i then s[i.toNat]? else none
theorem eE{s:ByteArray}{i:Int}{r:UInt8}(hi:dW s i=some r)[hu:c9 C T .string](hx:un g (S.get C x)= .val (.string s):=by first|exact rfl|exact ck)(hy:un g (S.get C y)= .val (.int k i):=by first|exact rfl|exact ck):bC C f call S g ⟨some d, .index T x y,ty,pos,aV,bD⟩=some ⟨[(d, .val (.int .u8 r.toNat))],[],[]⟩:=by show tW C _ T (un g (S.get C x)) (ei (un g (S.get C y)))=_;unfold dW at hi;split at hi;·{rename_i hp;simp only[hx,hy,ei,tW,hu.ul,if_pos hp,hi,AC];rfl};·cases hi
section
variable{e:TypeId}{xs:Array Operand}{ts:Array TypeId}{T:TypeId}
theorem dG{α:Type}{c:α→List U}{q:List α}(hx:un g (S.get C x)= .sl (q.map c):=by first|exact rfl|exact ck)[hu:c9 C T (.slice e)]:bC C f call S g ⟨some d, .call ⟨.builtin .len,⟨[x]⟩,⟨[T]⟩⟩,ty,pos,aV,bD⟩=some ⟨[(d, .val (.int .i64 q.length))],[],[]⟩:=by show q5 C _ _ ([x].map fun x=>un g (S.get C x))=_;simp[hx,q5,hu.ul,CA,CB,tZ]
theorem rL{id:Id}{off m m':Nat}(hx:un g (S.get C x)= .rs id off m':=by first|exact rfl|exact ck)(hm:m'=m:=by first|exact List.length_map _|exact rfl)[hu:c9 C T (.slice e)]:bC C f call S g ⟨some d, .call ⟨.builtin .len,⟨[x]⟩,⟨[T]⟩⟩,ty,pos,aV,bD⟩=some ⟨[(d, .val (.int .i64 m))],[],[]⟩:=by show q5 C _ _ ([x].map fun x=>un g (S.get C x))=_;simp[hx,q5,hu.ul,CA,CB,tZ,hm]
theorem gW{s:ByteArray}(hx:un g (S.get C x)= .val (.string s):=by first|exact rfl|exact ck)[hu:c9 C T .string]:bC C f call S g ⟨some d, .call ⟨.builtin .len,⟨[x]⟩,⟨[T]⟩⟩,ty,pos,aV,bD⟩=some ⟨[(d, .val (.int .i64 s.size))],[],[]⟩:=by show q5 C _ _ ([x].map fun x=>un g (S.get C x))=_;simp[hx,q5,hu.ul,CA,tZ]
end
theorem Sj:([]:List (Nat×Operand)).map (fun p=>(p.1,un g (S.get C p.2)))=[]:=rfl
theorem ahB{i:Nat}{l:List (Nat×Operand)}{l':List (Nat×U)}(hx:un g (S.get C x)=v)(k:l.map (fun p=>(p.1,un g (S.get C p.2)))=l'):((i,x)::l).map (fun p=>(p.1,un g (S.get C p.2)))=(i,v)::l':=by simp[hx,k]
theorem Gb{l:List (Nat×Operand)}{l':List (Nat×U)}(h:l.map (fun p=>(p.1,un g (S.get C p.2)))=l':=by repeat(first|exact Sj|(apply ahB;exact gt))):l.map (fun p=>(p.1,un g (S.get C p.2)))=l':=h
theorem dw{p:List (Nat×Operand)}{fY cs cs0:List U}{pl:List (Nat×Nat×Bool)}{ps:List (Nat×U)}[hz:jY C T fY][hp:Pl C T pl](hq:(p.map fun p=>(p.1,un g (S.get C p.2)))=ps:=by exact Gb)(hf:wh pl fY ps=some cs0:=by exact rfl)(hc:cs0=cs:=by exact spine)(j9:C.vo f d=[]:=by exact rfl):bC C f call S g ⟨some d, .build T ⟨p⟩,ty,pos,aV,bD⟩=some ⟨[(d, .agg cs)],[],[]⟩:=by show tS C f _ T (p.map fun p=>(p.1,un g (S.get C p.2)))=_;rw[hq];simp[tS,hz.fY,hp.pl,hf,hc,DE,j9,vp]
theorem iS{p:List (Nat×Operand)}{fY TU cs cs0:List U}{l:List Nat}{pl:List (Nat×Nat×Bool)}{ps:List (Nat×U)}[hz:jY C T fY][hp:Pl C T pl](j9:C.vo f d=l:=by exact rfl)(zl:vp l fY=TU:=by exact rfl)(hq:(p.map fun p=>(p.1,un g (S.get C p.2)))=ps:=by exact Gb)(hf:wh pl TU ps=some cs0:=by exact rfl)(hc:cs0=cs:=by exact spine):bC C f call S g ⟨some d, .build T ⟨p⟩,ty,pos,aV,bD⟩=some ⟨[(d, .agg cs)],[],[]⟩:=by subst zl;show tS C f _ T (p.map fun p=>(p.1,un g (S.get C p.2)))=_;rw[hq];simp[tS,hz.fY,hp.pl,hf,hc,DE,j9]
theorem zO{dr:Fn}{fs cs:Array Operand}{fa fb:List U}(ha:(fs.toList.map fun x=>un g (S.get C x))=fa:=by exact spine)(hb:(cs.toList.map fun x=>un g (S.get C x))=fb:=by exact spine):bC C f call S g ⟨some d, .makeFunc dr fs cs,ty,pos,aV,bD⟩=some ⟨[(d, .fn dr fa fb)],[],[]⟩:=by subst ha hb;rfl
theorem c6{vs:List U}{i:Nat}(hx:un g (S.get C x)= .aT vs:=by first|exact rfl|exact ck)(hi:vs[i]? =some v:=by exact rfl):bC C f call S g ⟨some d, .extract x i,ty,pos,aV,bD⟩=some ⟨[(d,v)],[],[]⟩:=by show yI _ (un g (S.get C x)) i=_;rw[hx];simp[yI,hi]
theorem bL(hx:un g (S.get C x)=v:=by exact gt)(hv:(match v with| .aI _| .mp _ _ _| .fn (.func _) _ _=>true|_=>false)=true:=by exact rfl):bC C f call S g ⟨some d, .nilCheck x,ty,pos,aV,bD⟩=some ⟨[(d,v)],[],[]⟩:=by show Bg _ (un g (S.get C x))=_;rw[hx];cases v with|fn dr a b=>(cases dr<;>first|rfl|cases hv)|aI _=>(rfl)|mp _ _ _=>(rfl)|_=>cases hv
theorem aeT{P:Program}{ts:Array TypeId}{k:IntKind}{a b:Int}:Fw P ts ty [.int k a, .int k b]=some (.int k (max a b)):=by have e:(if b>a then b else a)=max a b:=by{omega};simp[Fw,Builtin.max_,Builtin.max2,cY,List.foldlM,bind,Sem.bind,pure,e]
theorem aeY{P:Program}{ts:Array TypeId}{k:IntKind}{a b:Int}:Fy P ts ty [.int k a, .int k b]=some (.int k (min a b)):=by have e:(if b<a then b else a)=min a b:=by{omega};simp[Fy,Builtin.min_,Builtin.min2,cY,List.foldlM,bind,Sem.bind,pure,e]
theorem KD{k:IntKind}{a b:Int}{ts:Array TypeId}(hx:un g (S.get C x)= .val (.int k a):=by first|exact rfl|exact ck)(hy:un g (S.get C y)= .val (.int k b):=by first|exact rfl|exact ck):bC C f call S g ⟨some d, .call ⟨.builtin .max,⟨[x,y]⟩,ts⟩,ty,pos,aV,bD⟩=some ⟨[(d, .val (.int k (max a b)))],[],[]⟩:=by show(match iW ([x,y].map fun x=>un g (S.get C x))with|some vs=>lQ _ (Fw C.P ts ty vs)|none=>none)=_;simp only[GE,List.map_nil,hx,hy,iW,GT,aeT];rfl
theorem Ry{k:IntKind}{a b:Int}{ts:Array TypeId}(hx:un g (S.get C x)= .val (.int k a):=by first|exact rfl|exact ck)(hy:un g (S.get C y)= .val (.int k b):=by first|exact rfl|exact ck):bC C f call S g ⟨some d, .call ⟨.builtin .min,⟨[x,y]⟩,ts⟩,ty,pos,aV,bD⟩=some ⟨[(d, .val (.int k (min a b)))],[],[]⟩:=by show(match iW ([x,y].map fun x=>un g (S.get C x))with|some vs=>lQ _ (Fy C.P ts ty vs)|none=>none)=_;simp only[GE,List.map_nil,hx,hy,iW,GT,aeY];rfl
/-! ### Parts of slices and strings -/
def slc{α:Type}(l:List α)(lo hi:Option Int):Option (List α):=(bounds (lo.map some) (hi.map some) l.length).map fun p=>(l.take p.2).drop p.1
def iV(s:ByteArray)(lo hi:Option Int):Option ByteArray:=(bounds (lo.map some) (hi.map some) s.size).map fun p=>s.extract p.1 p.2
theorem Ef:(none.map fun y=>ei (un g (S.get C y)))=(none:Option Int).map some:=rfl
theorem Eg{n:Int}(h:un g (S.get C y)= .val (.int k n):=by first|exact rfl|exact ck):((some y).map fun y=>ei (un g (S.get C y)))=(some n).map some:=by show some (ei (un g (S.get C y)))=_;rw[h];rfl
theorem vM{α:Type}{c:α→List U}{q:List α}{m:Nat}(hc:∀x,(c x).length=m):(q.map c).all (·.length==m)=true:=by simp[hc]
theorem FQ{e:TypeId}{α:Type}{c:α→List U}{q r:List α}{lo hi:Option Operand}{lo' hi':Option Int}{m:Nat}{bb:Bool}(hr:slc q lo' hi'=some r)[hu:c9 C T (.slice e)][hs:cR C e bb m](hx:un g (S.get C x)= .sl (q.map c):=by first|exact rfl|exact ck)(h1:(lo.map fun y=>ei (un g (S.get C y)))=lo'.map some:=by first|exact Ef|exact Eg)(h2:(hi.map fun y=>ei (un g (S.get C y)))=hi'.map some:=by first|exact Ef|exact Eg)(h0:Nat.blt 0 m=true:=by exact rfl)(hl:∀x,(c x).length=m:=by exact fun _=>rfl):bC C f call S g ⟨some d, .slice T x lo hi none,ty,pos,aV,bD⟩=some ⟨[(d, .sl (r.map c))],[],[]⟩:=by unfold slc at hr;obtain⟨p,hp,rfl⟩:=Option.map_eq_some_iff.1 hr;show nQ C S _ T (un g (S.get C x)) _ _=_;have h0':0<m:=of_decide_eq_true (lU h0);rw[hx];simp only[nQ,hu.ul,hs.sz,h1,h2,List.length_map,hp,AC];rw[if_pos ⟨h0',vM hl⟩];simp[ret,put]
theorem k4{s r:ByteArray}{lo hi:Option Operand}{lo' hi':Option Int}(hr:iV s lo' hi'=some r)[hu:c9 C T .string](hx:un g (S.get C x)= .val (.string s):=by first|exact rfl|exact ck)(h1:(lo.map fun y=>ei (un g (S.get C y)))=lo'.map some:=by first|exact Ef|exact Eg)(h2:(hi.map fun y=>ei (un g (S.get C y)))=hi'.map some:=by first|exact Ef|exact Eg):bC C f call S g ⟨some d, .slice T x lo hi none,ty,pos,aV,bD⟩=some ⟨[(d, .val (.string r))],[],[]⟩:=by show nQ C S _ T (un g (S.get C x)) (lo.map fun y=>ei (un g (S.get C y))) (hi.map fun y=>ei (un g (S.get C y)))=_;unfold iV at hr;obtain⟨p,hp,rfl⟩:=Option.map_eq_some_iff.1 hr;rw[hx,h1,h2];simp only[nQ,hu.ul,hp,AC];rfl
end
end Go.Ab
