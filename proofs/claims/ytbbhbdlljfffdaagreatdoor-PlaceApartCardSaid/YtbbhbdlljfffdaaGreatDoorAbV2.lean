import Derived.Test.YtbbhbdlljfffdaaGreatDoorAbEqS
open List renaming map_cons→Hc
open Nat renaming ble→GE,le_of_ble_eq_true→GT,blt→Ha
open Option renaming bind_some→Hb,map_some→Hd
set_option linter.all false
namespace Go.Ab
open Go
inductive dA where|nil|code(n:Int)|other deriving DecidableEq,Inhabited
def gN(t:TypeId):dA→U| .nil=> .val .nilIface| .code n=> .val (.iface t (.int .i64 n))| .other=> .nn
def iP:Option Int→U|none=> .val (.pointer none)|some n=> .aA [.val (.int .i64 n)]
def jO(o:Option Int):List U:=[iP o]
/-! ### Facts about the program's types, found by their numbers -/
class c7(C:aL)(t:TypeId)(d:outParam TypeDesc):Prop where ul:C.P.underlying t=some d
class cM(C:aL)(t:TypeId)(b:outParam Bool)(n:outParam Nat):Prop where
 jN:k3 C t=some b
 sz:hO C t=some n
class Fd(C:aL)(t i:Nat)(off n:outParam Nat)(b:outParam Bool):Prop where fd:Cb C t i=some (off,n,b)
class jt(C:aL)(t:TypeId)(cs:outParam (List U)):Prop where fB:yL C t=some cs
class kS(C:aL)(t:TypeId)(cs:outParam (List U)):Prop where Vg:yM C t=some cs
class Pl(C:aL)(t:TypeId)(pl:outParam (List (Nat×Nat×Bool))):Prop where pl:L3 C t=some pl
def BO(C:aL)(e:TypeId)(m:Nat):Bool:=match C.P.info? e with|some i=>i.size==m&&decide (0<m)&&decide (i.bytes≤4096)&&EB i|none=>false
class oY(C:aL)(e:TypeId)(m:outParam Nat):Prop where ao:BO C e m=true
class iw{α:Type}(c:α→List U):Prop where fl:∀x,cY (c x)=true
class oa{α:Type}(c:α→List U):Prop where
 im:∀x,eu (c x)=true
 ce:∀x,(c x).all U.cell=true
class yR{α:Type}(c:α→List U)(c':outParam (α→List U)):Prop where dF:∀x,iZ (c x)=c' x
class alm{α:Type}(c:α→List U):Prop where mi:∀x,mz (c x)=true
section
variable{g g' h k:Bool}{x:U}
theorem HE{t:TypeId}{e:dA}:un g (gN t e)=gN t e:=by cases e<;>cases g<;>rfl
theorem yG{e:Option Int}:un g (iP e)=iP e:=by cases e<;>cases g<;>rfl
theorem akR{p:Bool}:un (true&&p) (.dw (p==true) x)=x:=by cases p<;>rfl
theorem akS{p:Bool}:un (true&& !p) (.dw (p==false) x)=x:=by cases p<;>rfl
theorem akT{p:Bool}:un (g&&p) (.dw (g&&(p==true)) x)=x:=by cases p<;>cases g<;>rfl
theorem akU{p:Bool}:un (g&& !p) (.dw (g&&(p==false)) x)=x:=by cases p<;>cases g<;>rfl
end
theorem bU{a b:U}(h:a=b:=by first|exact UN _|exact HE|exact yG|exact apI|exact akR|exact akS|exact akT|exact akU|exact apx|exact apy|exact apB|exact apz|exact apA):a=b:=h
theorem gt{a b:U}(h:a=b:=by first|exact(rfl:_=U.val _)|exact(rfl:_=U.sl _)|exact(rfl:_=U.rs _ _ _)|exact(rfl:_=U.mp _ _ _)|exact(rfl:_=U.aA _)|exact(rfl:_=U.agg _)|exact(rfl:_=U.cz)|exact(rfl:_=U.aY _)|exact(rfl:_=U.fn _ _ _)|exact HE|exact yG|exact(rfl:_=U.nn)|exact(rfl:_=U.mr _)|exact(rfl:_=U.im _)|exact(rfl:_=U.ey _)|exact bU):a=b:=h
theorem akj{α:Type}{a:α}{l t t':List α}(h:l=a::t)(k:t=t'):l=a::t':=by rw[h,k]
theorem akk{α:Type}{l:List α}(h:l=[]:=by exact rfl):l=[]:=h
theorem spine{α:Type}{a b:List α}(h:a=b:=by repeat(first|exact akk|apply akj rfl)):a=b:=h
theorem RD{α:Type}{o:Option α}(h:o=none):o.isNone=true:=by rw[h];rfl
section
variable{C:aL}{f:FuncId}{call:gd}{S:ah}{g:Bool}
variable{d:Nat}{ty:TypeId}{pos:String}{aZ:Array Edge}{bx:Option (Nat×Bool)}{v v':U}
variable{x y z:Operand}{k:IntKind}{a b:Int}{T aQ:TypeId}
theorem aa(h:un g (S.get C x)=v:=by exact gt):bw C f call S g ⟨some d, .move x,ty,pos,aZ,bx⟩=some ⟨[(d,v)],[],[]⟩:=by subst h;rfl
theorem af(h:un g (S.get C x)=v:=by exact gt):bw C f call S g ⟨some d, .assign x,ty,pos,aZ,bx⟩=some ⟨[(d,v)],[],[]⟩:=by subst h;rfl
theorem nX{op:BinOp}{Oj Ok:U}{e9 iu nq:Value}(hx:un g (S.get C x)=Oj)(hy:un g (S.get C y)=Ok)(h1:lX Oj=some e9)(h2:lX Ok=some iu)(hb:eD C.P op T x y e9 iu=some nq)(hs:eC nq=true):bw C f call S g ⟨some d, .binOp op T x y aQ,ty,pos,aZ,bx⟩=some ⟨[(d, .val nq)],[],[]⟩:=by show mP C _ op T x y (un g (S.get C x)) (un g (S.get C y))=_;rw[hx,hy];simp[mP,h1,h2,hb,hs]
theorem nW{op:BinOp}{nq:Value}(hb:eD C.P op T x y (.int k a) (.int k b)=some nq)(hs:eC nq=true)(hx:un g (S.get C x)= .val (.int k a))(hy:un g (S.get C y)= .val (.int k b)):bw C f call S g ⟨some d, .binOp op T x y aQ,ty,pos,aZ,bx⟩=some ⟨[(d, .val nq)],[],[]⟩:=nX hx hy rfl rfl hb hs
theorem dR(hx:un g (S.get C x)= .val (.int k a):=by first|exact rfl|exact bU)(hy:un g (S.get C y)= .val (.int k b):=by first|exact rfl|exact bU):bw C f call S g ⟨some d, .binOp .add T x y aQ,ty,pos,aZ,bx⟩=some ⟨[(d, .val (.int k (k.wrap (a+b))))],[],[]⟩:=nW YY rfl hx hy
theorem fe(hx:un g (S.get C x)= .val (.int k a):=by first|exact rfl|exact bU)(hy:un g (S.get C y)= .val (.int k b):=by first|exact rfl|exact bU):bw C f call S g ⟨some d, .binOp .sub T x y aQ,ty,pos,aZ,bx⟩=some ⟨[(d, .val (.int k (k.wrap (a-b))))],[],[]⟩:=nW Zb rfl hx hy
theorem SE(hx:un g (S.get C x)= .val (.int k a):=by first|exact rfl|exact bU)(hy:un g (S.get C y)= .val (.int k b):=by first|exact rfl|exact bU):bw C f call S g ⟨some d, .binOp .mul T x y aQ,ty,pos,aZ,bx⟩=some ⟨[(d, .val (.int k (k.wrap (a*b))))],[],[]⟩:=nW Y5 rfl hx hy
theorem ay(hx:un g (S.get C x)= .val (.int k a):=by first|exact rfl|exact bU)(hy:un g (S.get C y)= .val (.int k b):=by first|exact rfl|exact bU):bw C f call S g ⟨some d, .binOp .eql T x y aQ,ty,pos,aZ,bx⟩=some ⟨[(d, .val (.bool (a==b)))],[],[]⟩:=nW YZ rfl hx hy
theorem fN(hx:un g (S.get C x)= .val (.int k a):=by first|exact rfl|exact bU)(hy:un g (S.get C y)= .val (.int k b):=by first|exact rfl|exact bU):bw C f call S g ⟨some d, .binOp .neq T x y aQ,ty,pos,aZ,bx⟩=some ⟨[(d, .val (.bool (a !=b)))],[],[]⟩:=nW Y6 rfl hx hy
theorem eX(hx:un g (S.get C x)= .val (.int k a):=by first|exact rfl|exact bU)(hy:un g (S.get C y)= .val (.int k b):=by first|exact rfl|exact bU):bw C f call S g ⟨some d, .binOp .lss T x y aQ,ty,pos,aZ,bx⟩=some ⟨[(d, .val (.bool (decide (a<b))))],[],[]⟩:=nW Y4 rfl hx hy
theorem fZ(hx:un g (S.get C x)= .val (.int k a):=by first|exact rfl|exact bU)(hy:un g (S.get C y)= .val (.int k b):=by first|exact rfl|exact bU):bw C f call S g ⟨some d, .binOp .leq T x y aQ,ty,pos,aZ,bx⟩=some ⟨[(d, .val (.bool (decide (a≤b))))],[],[]⟩:=nW Y3 rfl hx hy
theorem gQ(hx:un g (S.get C x)= .val (.int k a):=by first|exact rfl|exact bU)(hy:un g (S.get C y)= .val (.int k b):=by first|exact rfl|exact bU):bw C f call S g ⟨some d, .binOp .gtr T x y aQ,ty,pos,aZ,bx⟩=some ⟨[(d, .val (.bool (decide (b<a))))],[],[]⟩:=nW Y2 rfl hx hy
theorem fM(hx:un g (S.get C x)= .val (.int k a):=by first|exact rfl|exact bU)(hy:un g (S.get C y)= .val (.int k b):=by first|exact rfl|exact bU):bw C f call S g ⟨some d, .binOp .geq T x y aQ,ty,pos,aZ,bx⟩=some ⟨[(d, .val (.bool (decide (b≤a))))],[],[]⟩:=nW Y1 rfl hx hy
theorem Y0{P:Program}{a b:ByteArray}:eD P .eql T x y (.string a) (.string b)=some (.bool (a.toList==b.toList)):=by simp[eD,eqGuard,binOp,Op.stringOp,cS,bind,Sem.bind,pure]
theorem Y7{P:Program}{a b:ByteArray}:eD P .neq T x y (.string a) (.string b)=some (.bool (a.toList !=b.toList)):=by simp[eD,eqGuard,binOp,Op.stringOp,cS,bind,Sem.bind,pure,bne]
theorem ew{a b:ByteArray}(hx:un g (S.get C x)= .val (.string a):=by first|exact rfl|exact bU)(hy:un g (S.get C y)= .val (.string b):=by first|exact rfl|exact bU):bw C f call S g ⟨some d, .binOp .eql T x y aQ,ty,pos,aZ,bx⟩=some ⟨[(d, .val (.bool (a.toList==b.toList)))],[],[]⟩:=nX hx hy rfl rfl Y0 rfl
theorem DB{a b:ByteArray}(hx:un g (S.get C x)= .val (.string a):=by first|exact rfl|exact bU)(hy:un g (S.get C y)= .val (.string b):=by first|exact rfl|exact bU):bw C f call S g ⟨some d, .binOp .neq T x y aQ,ty,pos,aZ,bx⟩=some ⟨[(d, .val (.bool (a.toList !=b.toList)))],[],[]⟩:=nX hx hy rfl rfl Y7 rfl
theorem nV{op:BinOp}{xs ys:List U}{vx vy:List Value}{q:Bool}(hb:eD C.P op T x y (.agg ⟨vx⟩) (.agg ⟨vy⟩)=some (.bool q))(hx:un g (S.get C x)= .agg xs:=by first|exact rfl|exact bU)(hy:un g (S.get C y)= .agg ys:=by first|exact rfl|exact bU)(h1:jl xs=some vx:=by exact rfl)(h2:jl ys=some vy:=by exact rfl):bw C f call S g ⟨some d, .binOp op T x y aQ,ty,pos,aZ,bx⟩=some ⟨[(d, .val (.bool q))],[],[]⟩:=nX hx hy (by simp[lX,h1]) (by simp[lX,h2]) hb rfl
theorem fS{p:Bool}(hx:un g (S.get C x)= .val (.bool p):=by first|exact rfl|exact bU):bw C f call S g ⟨some d, .unOp .not T x,ty,pos,aZ,bx⟩=some ⟨[(d, .val (.bool !p))],[],[]⟩:=by show wP C _ .not (un g (S.get C x))=_;rw[hx];rfl
theorem SI{op:UnOp}{e9 nq:Value}(hb:Bp C.P op e9=some nq)(hs:eC nq=true)(hx:un g (S.get C x)= .val e9:=by first|exact rfl|exact bU):bw C f call S g ⟨some d, .unOp op T x,ty,pos,aZ,bx⟩=some ⟨[(d, .val nq)],[],[]⟩:=by show wP C _ op (un g (S.get C x))=_;rw[hx];simp[hb,hs]
theorem ag9{e9 nq:Value}(hb:Fs C.P T aQ e9=some nq)(hx:un g (S.get C x)= .val e9:=by first|exact rfl|exact bU)(hs:eC nq=true:=by exact rfl)(hnb:uk C T aQ=false:=by first|rfl|decide):bw C f call S g ⟨some d, .convert T aQ x,ty,pos,aZ,bx⟩=some ⟨[(d, .val nq)],[],[]⟩:=by show sS C _ T aQ (un g (S.get C x))=_;rw[hx,abh hnb];simp[hb,hs]
theorem bI{p q r:Bool}(hx:un g (S.get C x)= .val (.bool p):=by first|exact rfl|exact bU)(hy:un (g&&p) (S.get C y)= .val (.bool q):=by first|exact rfl|exact bU)(hz:un (g&& !p) (S.get C z)= .val (.bool r):=by first|exact rfl|exact bU):bw C f call S g ⟨some d, .pick x y z,ty,pos,aZ,bx⟩=some ⟨[(d, .val (.bool (if p then q else r)))],[],[]⟩:=by show uz _ (un g (S.get C x)) (un (g&&mM (un g (S.get C x))) (S.get C y)) (un (g&& !mM (un g (S.get C x))) (S.get C z))=_;rw[hx];simp only[mM];rw[hy,hz];rfl
theorem cB{q:Bool}(hx:un g (S.get C x)= .val (.bool true):=by exact rfl)(hy:un (g&&true) (S.get C y)= .val (.bool q):=by first|exact rfl|exact bU):bw C f call S g ⟨some d, .pick x y z,ty,pos,aZ,bx⟩=some ⟨[(d, .val (.bool q))],[],[]⟩:=by show uz _ (un g (S.get C x)) (un (g&&mM (un g (S.get C x))) (S.get C y)) (un (g&& !mM (un g (S.get C x))) (S.get C z))=_;rw[hx];simp only[mM];rw[hy];generalize un (g&& !true) (S.get C z)=w;cases w with|val v=>(cases v<;>rfl)|_=>rfl
theorem bX{q:Bool}(hx:un g (S.get C x)= .val (.bool false):=by exact rfl)(hz:un (g&&true) (S.get C z)= .val (.bool q):=by first|exact rfl|exact bU):bw C f call S g ⟨some d, .pick x y z,ty,pos,aZ,bx⟩=some ⟨[(d, .val (.bool q))],[],[]⟩:=by show uz _ (un g (S.get C x)) (un (g&&mM (un g (S.get C x))) (S.get C y)) (un (g&& !mM (un g (S.get C x))) (S.get C z))=_;rw[hx];simp only[mM,Bool.not_false];rw[hz];generalize un (g&&false) (S.get C y)=w;cases w with|val v=>(cases v<;>rfl)|_=>rfl
/-! ### Memory that does not change -/
theorem lT{bb:Bool}{m:Nat}{cs cs':List U}[ha:cM C T bb m](hin:(C.eF f).contains d=true:=by exact rfl)(hx:un g (S.get C x)=v:=by exact gt)(hc:oh bb v=some cs:=by exact rfl)(hz:kH cs=cs':=by exact spine)(hi:eu cs'=true:=by exact rfl):bw C f call S g ⟨some d, .box T x,ty,pos,aZ,bx⟩=some ⟨[(d, .aA cs')],[],[]⟩:=by show qo C f S _ T (un g (S.get C x))=_;simp only[qo,ha.jN,hx,hc,eL,hin,hz,hi,Bool.and_self,if_true];rfl
theorem aq{m:Nat}{cells cs:List U}[ha:cM C T false m](hx:un g (S.get C x)= .aA cells:=by first|exact rfl|exact bU)(hm:m=1:=by exact rfl)(hv:cells=v::cs:=by exact rfl):bw C f call S g ⟨some d, .load T x,ty,pos,aZ,bx⟩=some ⟨[(d,v)],[],[]⟩:=by show lD C S _ T (un g (S.get C x))=_;subst hm hv;simp[lD,ha.jN,ha.sz,hx,jd]
theorem cI{m:Nat}{cells cs:List U}[ha:cM C T true m](hx:un g (S.get C x)= .aA cells:=by first|exact rfl|exact bU)(hl:GE m cells.length=true:=by exact rfl)(hv:cells.take m=cs:=by exact spine):bw C f call S g ⟨some d, .load T x,ty,pos,aZ,bx⟩=some ⟨[(d, .agg cs)],[],[]⟩:=by show lD C S _ T (un g (S.get C x))=_;have hl':m≤cells.length:=GT hl;simp[lD,ha.jN,ha.sz,hx,hl',hv,jd]
theorem ax{i off m:Nat}{bb:Bool}{cells:List U}[hf:Fd C T i off m bb](hx:un g (S.get C x)= .aA cells:=by first|exact rfl|exact bU)(h0:Ha 0 m=true:=by exact rfl)(hl:GE off cells.length=true:=by exact rfl)(hz:(C.eF f).contains d=false:=by exact rfl):bw C f call S g ⟨some d, .fieldAddr T x i,ty,pos,aZ,bx⟩=some ⟨[(d, .aA (cells.drop off))],[],[]⟩:=by show rG C f _ T i (un g (S.get C x))=_;have hl':off≤cells.length:=GT hl;have h0':0<m:=of_decide_eq_true (lq h0);simp only[rG,hf.fd,hx,eL,hz];rw[AC ⟨h0',hl'⟩];rfl
theorem ahb{i off m:Nat}{bb:Bool}{cells cs:List U}[hf:Fd C T i off m bb](hx:un g (S.get C x)= .aA cells:=by first|exact rfl|exact bU)(h0:Ha 0 m=true:=by exact rfl)(hl:GE (off+m) cells.length=true:=by exact rfl)(hz:(C.eF f).contains d=true:=by exact rfl)(hc:(cells.drop off).take m=cs:=by exact spine):bw C f call S g ⟨some d, .fieldAddr T x i,ty,pos,aZ,bx⟩=some ⟨[(d, .aA cs)],[],[]⟩:=by show rG C f _ T i (un g (S.get C x))=_;have hl':off+m≤cells.length:=GT hl;have h0':0<m:=of_decide_eq_true (lq h0);simp only[rG,hf.fd,hx,eL,hz,if_true];rw[AC ⟨h0',by omega⟩,AC hl',hc];rfl
theorem oN{i off m:Nat}{cells cs:List U}[hf:Fd C T i off m false](hx:un g (S.get C x)= .agg cells:=by first|exact rfl|exact bU)(hm:m=1:=by exact rfl)(hv:cells.drop off=v::cs:=by exact rfl)(hl:GE (off+1) cells.length=true:=by exact rfl):bw C f call S g ⟨some d, .field T x i,ty,pos,aZ,bx⟩=some ⟨[(d,v)],[],[]⟩:=by show zA C _ T i (un g (S.get C x))=_;subst hm;have hl':off+1≤cells.length:=GT hl;simp[zA,hf.fd,hx,hl',hv,jd]
theorem cr{e:TypeId}{m:Nat}{bb:Bool}{α:Type}{c:α→List U}{q:List α}{i:Int}{r:α}(hi:idx q i=some r)[hu:c7 C T (.slice e)][hs:cM C e bb m](hx:un g (S.get C x)= .sl (q.map c):=by first|exact rfl|exact bU)(hy:un g (S.get C y)= .val (.int k i):=by first|exact rfl|exact bU)(h0:Ha 0 m=true:=by exact rfl)(hr:(c r).length=m:=by exact rfl):bw C f call S g ⟨some d, .indexAddr T x y,ty,pos,aZ,bx⟩=some ⟨[(d, .aA (c r))],[],[]⟩:=by show mQ C S _ T (un g (S.get C x)) (eB (un g (S.get C y)))=_;have h0':0<m:=of_decide_eq_true (lq h0);have h1:=C6 (c:=c) hi;unfold idx at h1;split at h1;·{rename_i hp;simp only[hx,hy,eB,mQ,hu.ul,hs.sz,AC hp,h1,Hb];simp[hr,h0']};·cases h1
def en(s:ByteArray)(i:Int):Option UInt8:=if 0≤i then s[i.toNat]? else none
theorem eN{s:ByteArray}{i:Int}{r:UInt8}(hi:en s i=some r)[hu:c7 C T .string](hx:un g (S.get C x)= .val (.string s):=by first|exact rfl|exact bU)(hy:un g (S.get C y)= .val (.int k i):=by first|exact rfl|exact bU):bw C f call S g ⟨some d, .index T x y,ty,pos,aZ,bx⟩=some ⟨[(d, .val (.int .u8 r.toNat))],[],[]⟩:=by show ux C _ T (un g (S.get C x)) (eB (un g (S.get C y)))=_;unfold en at hi;split at hi;·{rename_i hp;simp only[hx,hy,eB,ux,hu.ul,AC hp,hi,Hb];rfl};·cases hi
section
variable{e:TypeId}{xs:Array Operand}{ts:Array TypeId}{T:TypeId}
theorem de{α:Type}{c:α→List U}{q:List α}(hx:un g (S.get C x)= .sl (q.map c):=by first|exact rfl|exact bU)[hu:c7 C T (.slice e)]:bw C f call S g ⟨some d, .call ⟨.builtin .len,⟨[x]⟩,⟨[T]⟩⟩,ty,pos,aZ,bx⟩=some ⟨[(d, .val (.int .i64 q.length))],[],[]⟩:=by show rH C _ _ ([x].map fun x=>un g (S.get C x))=_;simp[hx,rH,hu.ul,Dp,Dq,uB]
theorem r6{id:Id}{off m m':Nat}(hx:un g (S.get C x)= .rs id off m':=by first|exact rfl|exact bU)(hm:m'=m:=by first|exact List.length_map _|exact rfl)[hu:c7 C T (.slice e)]:bw C f call S g ⟨some d, .call ⟨.builtin .len,⟨[x]⟩,⟨[T]⟩⟩,ty,pos,aZ,bx⟩=some ⟨[(d, .val (.int .i64 m))],[],[]⟩:=by show rH C _ _ ([x].map fun x=>un g (S.get C x))=_;simp[hx,rH,hu.ul,Dp,Dq,uB,hm]
theorem ij{s:ByteArray}(hx:un g (S.get C x)= .val (.string s):=by first|exact rfl|exact bU)[hu:c7 C T .string]:bw C f call S g ⟨some d, .call ⟨.builtin .len,⟨[x]⟩,⟨[T]⟩⟩,ty,pos,aZ,bx⟩=some ⟨[(d, .val (.int .i64 s.size))],[],[]⟩:=by show rH C _ _ ([x].map fun x=>un g (S.get C x))=_;simp[hx,rH,hu.ul,Dp,uB]
end
theorem TE:([]:List (Nat×Operand)).map (fun p=>(p.1,un g (S.get C p.2)))=[]:=rfl
theorem aja{i:Nat}{l:List (Nat×Operand)}{l':List (Nat×U)}(hx:un g (S.get C x)=v)(k:l.map (fun p=>(p.1,un g (S.get C p.2)))=l'):((i,x)::l).map (fun p=>(p.1,un g (S.get C p.2)))=(i,v)::l':=by simp[hx,k]
theorem DX{l:List (Nat×Operand)}{l':List (Nat×U)}(h:l.map (fun p=>(p.1,un g (S.get C p.2)))=l':=by repeat(first|exact TE|(apply aja;exact gt))):l.map (fun p=>(p.1,un g (S.get C p.2)))=l':=h
theorem cZ{p:List (Nat×Operand)}{fB cs cs0:List U}{pl:List (Nat×Nat×Bool)}{ps:List (Nat×U)}[hz:jt C T fB][hp:Pl C T pl](hq:(p.map fun p=>(p.1,un g (S.get C p.2)))=ps:=by exact DX)(hf:wR pl fB ps=some cs0:=by exact rfl)(hc:cs0=cs:=by exact spine)(kn:C.vI f d=[]:=by exact rfl):bw C f call S g ⟨some d, .build T ⟨p⟩,ty,pos,aZ,bx⟩=some ⟨[(d, .agg cs)],[],[]⟩:=by show uu C f _ T (p.map fun p=>(p.1,un g (S.get C p.2)))=_;rw[hq];simp[uu,hz.fB,hp.pl,hf,hc,EC,kn,vJ]
theorem je{p:List (Nat×Operand)}{fB Ve cs cs0:List U}{l:List Nat}{pl:List (Nat×Nat×Bool)}{ps:List (Nat×U)}[hz:jt C T fB][hp:Pl C T pl](kn:C.vI f d=l:=by exact rfl)(uT:vJ l fB=Ve:=by exact rfl)(hq:(p.map fun p=>(p.1,un g (S.get C p.2)))=ps:=by exact DX)(hf:wR pl Ve ps=some cs0:=by exact rfl)(hc:cs0=cs:=by exact spine):bw C f call S g ⟨some d, .build T ⟨p⟩,ty,pos,aZ,bx⟩=some ⟨[(d, .agg cs)],[],[]⟩:=by subst uT;show uu C f _ T (p.map fun p=>(p.1,un g (S.get C p.2)))=_;rw[hq];simp[uu,hz.fB,hp.pl,hf,hc,EC,kn]
theorem u7{dx:Fn}{fs cs:Array Operand}{fa fb:List U}(ha:(fs.toList.map fun x=>un g (S.get C x))=fa:=by exact spine)(hb:(cs.toList.map fun x=>un g (S.get C x))=fb:=by exact spine):bw C f call S g ⟨some d, .makeFunc dx fs cs,ty,pos,aZ,bx⟩=some ⟨[(d, .fn dx fa fb)],[],[]⟩:=by subst ha hb;rfl
theorem c5{vs:List U}{i:Nat}(hx:un g (S.get C x)= .aY vs:=by first|exact rfl|exact bU)(hi:vs[i]? =some v:=by exact rfl):bw C f call S g ⟨some d, .extract x i,ty,pos,aZ,bx⟩=some ⟨[(d,v)],[],[]⟩:=by show zz _ (un g (S.get C x)) i=_;rw[hx];simp[zz,hi]
theorem bW(hx:un g (S.get C x)=v:=by exact gt)(hv:(match v with| .aA _| .mp _ _ _| .fn (.func _) _ _=>true|_=>false)=true:=by exact rfl):bw C f call S g ⟨some d, .nilCheck x,ty,pos,aZ,bx⟩=some ⟨[(d,v)],[],[]⟩:=by show zB _ (un g (S.get C x))=_;rw[hx];cases v with|fn dx a b=>(cases dx<;>first|rfl|cases hv)|aA _=>(rfl)|mp _ _ _=>(rfl)|_=>cases hv
theorem ags{P:Program}{ts:Array TypeId}{k:IntKind}{a b:Int}:GD P ts ty [.int k a, .int k b]=some (.int k (max a b)):=by have e:(if b>a then b else a)=max a b:=by{omega};simp[GD,Builtin.max_,Builtin.max2,cS,List.foldlM,bind,Sem.bind,pure,e]
theorem agu{P:Program}{ts:Array TypeId}{k:IntKind}{a b:Int}:GF P ts ty [.int k a, .int k b]=some (.int k (min a b)):=by have e:(if b<a then b else a)=min a b:=by{omega};simp[GF,Builtin.min_,Builtin.min2,cS,List.foldlM,bind,Sem.bind,pure,e]
theorem GU{k:IntKind}{a b:Int}{ts:Array TypeId}(hx:un g (S.get C x)= .val (.int k a):=by first|exact rfl|exact bU)(hy:un g (S.get C y)= .val (.int k b):=by first|exact rfl|exact bU):bw C f call S g ⟨some d, .call ⟨.builtin .max,⟨[x,y]⟩,ts⟩,ty,pos,aZ,bx⟩=some ⟨[(d, .val (.int k (max a b)))],[],[]⟩:=by show(match jl ([x,y].map fun x=>un g (S.get C x))with|some vs=>kK _ (GD C.P ts ty vs)|none=>none)=_;simp only[Hc,List.map_nil,hx,hy,jl,Hd,ags];rfl
theorem SD{k:IntKind}{a b:Int}{ts:Array TypeId}(hx:un g (S.get C x)= .val (.int k a):=by first|exact rfl|exact bU)(hy:un g (S.get C y)= .val (.int k b):=by first|exact rfl|exact bU):bw C f call S g ⟨some d, .call ⟨.builtin .min,⟨[x,y]⟩,ts⟩,ty,pos,aZ,bx⟩=some ⟨[(d, .val (.int k (min a b)))],[],[]⟩:=by show(match jl ([x,y].map fun x=>un g (S.get C x))with|some vs=>kK _ (GF C.P ts ty vs)|none=>none)=_;simp only[Hc,List.map_nil,hx,hy,jl,Hd,agu];rfl
/-! ### Parts of slices and strings -/
def slc{α:Type}(l:List α)(lo hi:Option Int):Option (List α):=(bounds (lo.map some) (hi.map some) l.length).map fun p=>(l.take p.2).drop p.1
def jk(s:ByteArray)(lo hi:Option Int):Option ByteArray:=(bounds (lo.map some) (hi.map some) s.size).map fun p=>s.extract p.1 p.2
theorem Fg:(none.map fun y=>eB (un g (S.get C y)))=(none:Option Int).map some:=rfl
theorem Fh{n:Int}(h:un g (S.get C y)= .val (.int k n):=by first|exact rfl|exact bU):((some y).map fun y=>eB (un g (S.get C y)))=(some n).map some:=by show some (eB (un g (S.get C y)))=_;rw[h];rfl
theorem wh{α:Type}{c:α→List U}{q:List α}{m:Nat}(hc:∀x,(c x).length=m):(q.map c).all (·.length==m)=true:=by simp[hc]
theorem ahi{e:TypeId}{α:Type}{c:α→List U}{q r:List α}{lo hi:Option Operand}{lo' hi':Option Int}{m:Nat}{bb:Bool}(hr:slc q lo' hi'=some r)[hu:c7 C T (.slice e)][hs:cM C e bb m](hx:un g (S.get C x)= .sl (q.map c):=by first|exact rfl|exact bU)(h1:(lo.map fun y=>eB (un g (S.get C y)))=lo'.map some:=by first|exact Fg|exact Fh)(h2:(hi.map fun y=>eB (un g (S.get C y)))=hi'.map some:=by first|exact Fg|exact Fh)(h0:Ha 0 m=true:=by exact rfl)(hl:∀x,(c x).length=m:=by exact fun _=>rfl):bw C f call S g ⟨some d, .slice T x lo hi none,ty,pos,aZ,bx⟩=some ⟨[(d, .sl (r.map c))],[],[]⟩:=by unfold slc at hr;obtain⟨p,hp,rfl⟩:=Option.map_eq_some_iff.1 hr;show ot C S _ T (un g (S.get C x)) _ _=_;have h0':0<m:=of_decide_eq_true (lq h0);rw[hx];simp only[ot,hu.ul,hs.sz,h1,h2,List.length_map,hp,Hb];rw[AC ⟨h0',wh hl⟩];simp[ret,put]
theorem k7{s r:ByteArray}{lo hi:Option Operand}{lo' hi':Option Int}(hr:jk s lo' hi'=some r)[hu:c7 C T .string](hx:un g (S.get C x)= .val (.string s):=by first|exact rfl|exact bU)(h1:(lo.map fun y=>eB (un g (S.get C y)))=lo'.map some:=by first|exact Fg|exact Fh)(h2:(hi.map fun y=>eB (un g (S.get C y)))=hi'.map some:=by first|exact Fg|exact Fh):bw C f call S g ⟨some d, .slice T x lo hi none,ty,pos,aZ,bx⟩=some ⟨[(d, .val (.string r))],[],[]⟩:=by show ot C S _ T (un g (S.get C x)) (lo.map fun y=>eB (un g (S.get C y))) (hi.map fun y=>eB (un g (S.get C y)))=_;unfold jk at hr;obtain⟨p,hp,rfl⟩:=Option.map_eq_some_iff.1 hr;rw[hx,h1,h2];simp only[ot,hu.ul,hp,Hb];rfl
end
end Go.Ab
