import Derived.Test.YtbbhbdlljfffdaaGreatDoorAbEqS
open List renaming map_cons→GE
open Nat renaming le_of_ble_eq_true→Do
open Option renaming bind_some→AC,map_some→GT
set_option linter.all false
namespace Go.Ab
open Go
inductive dj where|nil|code(n:Int)|other deriving DecidableEq,Inhabited
def gu(t:TypeId):dj→U| .nil=> .val .nilIface| .code n=> .val (.iface t (.int .i64 n))| .other=> .nn
/-! ### Facts about the program's types, found by their numbers -/
class c9(C:aG)(t:TypeId)(d:outParam TypeDesc):Prop where ul:C.P.underlying t=some d
class cU(C:aG)(t:TypeId)(b:outParam Bool)(n:outParam Nat):Prop where
 jP:kI C t=some b
 sz:gJ C t=some n
class Fd(C:aG)(t i:Nat)(off n:outParam Nat)(b:outParam Bool):Prop where fd:A4 C t i=some (off,n,b)
class jO(C:aG)(t:TypeId)(cs:outParam (List U)):Prop where fU:xE C t=some cs
class ou(C:aG)(t:TypeId)(cs:outParam (List U)):Prop where TL:xF C t=some cs
class Pl(C:aG)(t:TypeId)(pl:outParam (List (Nat×Nat×Bool))):Prop where pl:La C t=some pl
def AI(C:aG)(e:TypeId)(m:Nat):Bool:=match C.P.info? e with|some i=>i.size==m&&decide (0<m)&&decide (i.bytes≤4096)&&DA i|none=>false
class qt(C:aG)(e:TypeId)(m:outParam Nat):Prop where ao:AI C e m=true
class iA{α:Type}(c:α→List U):Prop where fl:∀x,cM (c x)=true
class o9{α:Type}(c:α→List U):Prop where
 im:∀x,eA (c x)=true
 ce:∀x,(c x).all U.cell=true
class DJ{α:Type}(c:α→List U)(c':outParam (α→List U)):Prop where dG:∀x,ju (c x)=c' x
class My{α:Type}(c:α→List U):Prop where mi:∀x,jA (c x)=true
section
variable{g g' h k:Bool}{x:U}
theorem Gt{t:TypeId}{e:dj}:un g (gu t e)=gu t e:=by cases e<;>cases g<;>rfl
theorem ai5{p:Bool}:un (true&&p) (.c8 (p==true) x)=x:=by cases p<;>rfl
theorem ai6{p:Bool}:un (true&& !p) (.c8 (p==false) x)=x:=by cases p<;>rfl
theorem ai7{p:Bool}:un (g&&p) (.c8 (g&&(p==true)) x)=x:=by cases p<;>cases g<;>rfl
theorem ai8{p:Bool}:un (g&& !p) (.c8 (g&&(p==false)) x)=x:=by cases p<;>cases g<;>rfl
end
theorem cp{a b:U}(h:a=b:=by first|exact Tk _|exact Gt|exact ai4|exact anX|exact ai5|exact ai6|exact ai7|exact ai8|exact anM|exact anN|exact anQ|exact anO|exact anP):a=b:=h
theorem gt{a b:U}(h:a=b:=by first|exact(rfl:_=U.val _)|exact(rfl:_=U.sl _)|exact(rfl:_=U.rs _ _ _)|exact(rfl:_=U.mp _ _ _)|exact(rfl:_=U.aD _)|exact(rfl:_=U.agg _)|exact(rfl:_=U.cw)|exact(rfl:_=U.aS _)|exact(rfl:_=U.fn _ _ _)|exact Gt|exact ai4|exact(rfl:_=U.nn)|exact(rfl:_=U.mr _)|exact(rfl:_=U.im _)|exact(rfl:_=U.ey _)|exact cp):a=b:=h
theorem aiy{α:Type}{a:α}{l t t':List α}(h:l=a::t)(k:t=t'):l=a::t':=by rw[h,k]
theorem aiz{α:Type}{l:List α}(h:l=[]:=by exact rfl):l=[]:=h
theorem spine{α:Type}{a b:List α}(h:a=b:=by repeat(first|exact aiz|apply aiy rfl)):a=b:=h
theorem Qr{α:Type}{o:Option α}(h:o=none):o.isNone=true:=by rw[h];rfl
section
variable{C:aG}{f:FuncId}{call:fL}{S:ah}{g:Bool}
variable{d:Nat}{ty:TypeId}{pos:String}{aV:Array Edge}{bB:Option (Nat×Bool)}{v v':U}
variable{x y z:Operand}{k:IntKind}{a b:Int}{T aJ:TypeId}
theorem aa(h:un g (S.get C x)=v:=by exact gt):bA C f call S g ⟨some d, .move x,ty,pos,aV,bB⟩=some ⟨[(d,v)],[],[]⟩:=by subst h;rfl
theorem af(h:un g (S.get C x)=v:=by exact gt):bA C f call S g ⟨some d, .assign x,ty,pos,aV,bB⟩=some ⟨[(d,v)],[],[]⟩:=by subst h;rfl
theorem n4{op:BinOp}{Nr Ns:U}{eP gU mC:Value}(hx:un g (S.get C x)=Nr)(hy:un g (S.get C y)=Ns)(h1:ob Nr=some eP)(h2:ob Ns=some gU)(hb:eS C.P op T x y eP gU=some mC)(hs:eB mC=true):bA C f call S g ⟨some d, .binOp op T x y aJ,ty,pos,aV,bB⟩=some ⟨[(d, .val mC)],[],[]⟩:=by show r4 C _ op T x y (un g (S.get C x)) (un g (S.get C y))=_;rw[hx,hy];simp[r4,h1,h2,hb,hs]
theorem qg{op:BinOp}{mC:Value}(hb:eS C.P op T x y (.int k a) (.int k b)=some mC)(hs:eB mC=true)(hx:un g (S.get C x)= .val (.int k a))(hy:un g (S.get C y)= .val (.int k b)):bA C f call S g ⟨some d, .binOp op T x y aJ,ty,pos,aV,bB⟩=some ⟨[(d, .val mC)],[],[]⟩:=n4 hx hy rfl rfl hb hs
theorem eH(hx:un g (S.get C x)= .val (.int k a):=by first|exact rfl|exact cp)(hy:un g (S.get C y)= .val (.int k b):=by first|exact rfl|exact cp):bA C f call S g ⟨some d, .binOp .add T x y aJ,ty,pos,aV,bB⟩=some ⟨[(d, .val (.int k (k.wrap (a+b))))],[],[]⟩:=qg Xp rfl hx hy
theorem fE(hx:un g (S.get C x)= .val (.int k a):=by first|exact rfl|exact cp)(hy:un g (S.get C y)= .val (.int k b):=by first|exact rfl|exact cp):bA C f call S g ⟨some d, .binOp .sub T x y aJ,ty,pos,aV,bB⟩=some ⟨[(d, .val (.int k (k.wrap (a-b))))],[],[]⟩:=qg XB rfl hx hy
theorem afv(hx:un g (S.get C x)= .val (.int k a):=by first|exact rfl|exact cp)(hy:un g (S.get C y)= .val (.int k b):=by first|exact rfl|exact cp):bA C f call S g ⟨some d, .binOp .mul T x y aJ,ty,pos,aV,bB⟩=some ⟨[(d, .val (.int k (k.wrap (a*b))))],[],[]⟩:=qg Xw rfl hx hy
theorem az(hx:un g (S.get C x)= .val (.int k a):=by first|exact rfl|exact cp)(hy:un g (S.get C y)= .val (.int k b):=by first|exact rfl|exact cp):bA C f call S g ⟨some d, .binOp .eql T x y aJ,ty,pos,aV,bB⟩=some ⟨[(d, .val (.bool (a==b)))],[],[]⟩:=qg Xq rfl hx hy
theorem ei(hx:un g (S.get C x)= .val (.int k a):=by first|exact rfl|exact cp)(hy:un g (S.get C y)= .val (.int k b):=by first|exact rfl|exact cp):bA C f call S g ⟨some d, .binOp .neq T x y aJ,ty,pos,aV,bB⟩=some ⟨[(d, .val (.bool (a !=b)))],[],[]⟩:=qg Xx rfl hx hy
theorem eN(hx:un g (S.get C x)= .val (.int k a):=by first|exact rfl|exact cp)(hy:un g (S.get C y)= .val (.int k b):=by first|exact rfl|exact cp):bA C f call S g ⟨some d, .binOp .lss T x y aJ,ty,pos,aV,bB⟩=some ⟨[(d, .val (.bool (decide (a<b))))],[],[]⟩:=qg Xv rfl hx hy
theorem fO(hx:un g (S.get C x)= .val (.int k a):=by first|exact rfl|exact cp)(hy:un g (S.get C y)= .val (.int k b):=by first|exact rfl|exact cp):bA C f call S g ⟨some d, .binOp .leq T x y aJ,ty,pos,aV,bB⟩=some ⟨[(d, .val (.bool (decide (a≤b))))],[],[]⟩:=qg Xu rfl hx hy
theorem iN(hx:un g (S.get C x)= .val (.int k a):=by first|exact rfl|exact cp)(hy:un g (S.get C y)= .val (.int k b):=by first|exact rfl|exact cp):bA C f call S g ⟨some d, .binOp .gtr T x y aJ,ty,pos,aV,bB⟩=some ⟨[(d, .val (.bool (decide (b<a))))],[],[]⟩:=qg Xt rfl hx hy
theorem fD(hx:un g (S.get C x)= .val (.int k a):=by first|exact rfl|exact cp)(hy:un g (S.get C y)= .val (.int k b):=by first|exact rfl|exact cp):bA C f call S g ⟨some d, .binOp .geq T x y aJ,ty,pos,aV,bB⟩=some ⟨[(d, .val (.bool (decide (b≤a))))],[],[]⟩:=qg Xs rfl hx hy
theorem Xr{P:Program}{a b:ByteArray}:eS P .eql T x y (.string a) (.string b)=some (.bool (a.toList==b.toList)):=by simp[eS,eqGuard,binOp,Op.stringOp,cZ,bind,Sem.bind,pure]
theorem Xy{P:Program}{a b:ByteArray}:eS P .neq T x y (.string a) (.string b)=some (.bool (a.toList !=b.toList)):=by simp[eS,eqGuard,binOp,Op.stringOp,cZ,bind,Sem.bind,pure,bne]
theorem ew{a b:ByteArray}(hx:un g (S.get C x)= .val (.string a):=by first|exact rfl|exact cp)(hy:un g (S.get C y)= .val (.string b):=by first|exact rfl|exact cp):bA C f call S g ⟨some d, .binOp .eql T x y aJ,ty,pos,aV,bB⟩=some ⟨[(d, .val (.bool (a.toList==b.toList)))],[],[]⟩:=n4 hx hy rfl rfl Xr rfl
theorem zx{a b:ByteArray}(hx:un g (S.get C x)= .val (.string a):=by first|exact rfl|exact cp)(hy:un g (S.get C y)= .val (.string b):=by first|exact rfl|exact cp):bA C f call S g ⟨some d, .binOp .neq T x y aJ,ty,pos,aV,bB⟩=some ⟨[(d, .val (.bool (a.toList !=b.toList)))],[],[]⟩:=n4 hx hy rfl rfl Xy rfl
theorem uw{op:BinOp}{xs ys:List U}{vx vy:List Value}{q:Bool}(hb:eS C.P op T x y (.agg ⟨vx⟩) (.agg ⟨vy⟩)=some (.bool q))(hx:un g (S.get C x)= .agg xs:=by first|exact rfl|exact cp)(hy:un g (S.get C y)= .agg ys:=by first|exact rfl|exact cp)(h1:iT xs=some vx:=by exact rfl)(h2:iT ys=some vy:=by exact rfl):bA C f call S g ⟨some d, .binOp op T x y aJ,ty,pos,aV,bB⟩=some ⟨[(d, .val (.bool q))],[],[]⟩:=n4 hx hy (by simp[ob,h1]) (by simp[ob,h2]) hb rfl
theorem e8{p:Bool}(hx:un g (S.get C x)= .val (.bool p):=by first|exact rfl|exact cp):bA C f call S g ⟨some d, .unOp .not T x,ty,pos,aV,bB⟩=some ⟨[(d, .val (.bool !p))],[],[]⟩:=by show vH C _ .not (un g (S.get C x))=_;rw[hx];rfl
theorem afA{op:UnOp}{eP mC:Value}(hb:Dx C.P op eP=some mC)(hs:eB mC=true)(hx:un g (S.get C x)= .val eP:=by first|exact rfl|exact cp):bA C f call S g ⟨some d, .unOp op T x,ty,pos,aV,bB⟩=some ⟨[(d, .val mC)],[],[]⟩:=by show vH C _ op (un g (S.get C x))=_;rw[hx];simp[hb,hs]
theorem afr{eP mC:Value}(hb:Ej C.P T aJ eP=some mC)(hx:un g (S.get C x)= .val eP:=by first|exact rfl|exact cp)(hs:eB mC=true:=by exact rfl)(hnb:tr C T aJ=false:=by first|rfl|decide):bA C f call S g ⟨some d, .convert T aJ x,ty,pos,aV,bB⟩=some ⟨[(d, .val mC)],[],[]⟩:=by show r6 C _ T aJ (un g (S.get C x))=_;rw[hx,Zv hnb];simp[hb,hs]
theorem bC{p q r:Bool}(hx:un g (S.get C x)= .val (.bool p):=by first|exact rfl|exact cp)(hy:un (g&&p) (S.get C y)= .val (.bool q):=by first|exact rfl|exact cp)(hz:un (g&& !p) (S.get C z)= .val (.bool r):=by first|exact rfl|exact cp):bA C f call S g ⟨some d, .pick x y z,ty,pos,aV,bB⟩=some ⟨[(d, .val (.bool (if p then q else r)))],[],[]⟩:=by show tI _ (un g (S.get C x)) (un (g&&l9 (un g (S.get C x))) (S.get C y)) (un (g&& !l9 (un g (S.get C x))) (S.get C z))=_;rw[hx];simp only[l9];rw[hy,hz];rfl
theorem bJ{q:Bool}(hx:un g (S.get C x)= .val (.bool true):=by exact rfl)(hy:un (g&&true) (S.get C y)= .val (.bool q):=by first|exact rfl|exact cp):bA C f call S g ⟨some d, .pick x y z,ty,pos,aV,bB⟩=some ⟨[(d, .val (.bool q))],[],[]⟩:=by show tI _ (un g (S.get C x)) (un (g&&l9 (un g (S.get C x))) (S.get C y)) (un (g&& !l9 (un g (S.get C x))) (S.get C z))=_;rw[hx];simp only[l9];rw[hy];generalize un (g&& !true) (S.get C z)=w;cases w with|val v=>(cases v<;>rfl)|_=>rfl
theorem aZ{q:Bool}(hx:un g (S.get C x)= .val (.bool false):=by exact rfl)(hz:un (g&&true) (S.get C z)= .val (.bool q):=by first|exact rfl|exact cp):bA C f call S g ⟨some d, .pick x y z,ty,pos,aV,bB⟩=some ⟨[(d, .val (.bool q))],[],[]⟩:=by show tI _ (un g (S.get C x)) (un (g&&l9 (un g (S.get C x))) (S.get C y)) (un (g&& !l9 (un g (S.get C x))) (S.get C z))=_;rw[hx];simp only[l9,Bool.not_false];rw[hz];generalize un (g&&false) (S.get C y)=w;cases w with|val v=>(cases v<;>rfl)|_=>rfl
/-! ### Memory that does not change -/
theorem qc{bb:Bool}{m:Nat}{cs cs':List U}[ha:cU C T bb m](hin:(C.eD f).contains d=true:=by exact rfl)(hx:un g (S.get C x)=v:=by exact gt)(hc:ox bb v=some cs:=by exact rfl)(hz:kK cs=cs':=by exact spine)(hi:eA cs'=true:=by exact rfl):bA C f call S g ⟨some d, .box T x,ty,pos,aV,bB⟩=some ⟨[(d, .aD cs')],[],[]⟩:=by show pK C f S _ T (un g (S.get C x))=_;simp only[pK,ha.jP,hx,hc,eJ,hin,hz,hi,Bool.and_self,if_true];rfl
theorem au{m:Nat}{cells cs:List U}[ha:cU C T false m](hx:un g (S.get C x)= .aD cells:=by first|exact rfl|exact cp)(hm:m=1:=by exact rfl)(hv:cells=v::cs:=by exact rfl):bA C f call S g ⟨some d, .load T x,ty,pos,aV,bB⟩=some ⟨[(d,v)],[],[]⟩:=by show kY C S _ T (un g (S.get C x))=_;subst hm hv;simp[kY,ha.jP,ha.sz,hx,iL]
theorem dQ{m:Nat}{cells cs:List U}[ha:cU C T true m](hx:un g (S.get C x)= .aD cells:=by first|exact rfl|exact cp)(hl:Nat.ble m cells.length=true:=by exact rfl)(hv:cells.take m=cs:=by exact spine):bA C f call S g ⟨some d, .load T x,ty,pos,aV,bB⟩=some ⟨[(d, .agg cs)],[],[]⟩:=by show kY C S _ T (un g (S.get C x))=_;have hl':m≤cells.length:=Do hl;simp[kY,ha.jP,ha.sz,hx,hl',hv,iL]
theorem ay{i off m:Nat}{bb:Bool}{cells:List U}[hf:Fd C T i off m bb](hx:un g (S.get C x)= .aD cells:=by first|exact rfl|exact cp)(h0:Nat.blt 0 m=true:=by exact rfl)(hl:Nat.ble off cells.length=true:=by exact rfl)(hz:(C.eD f).contains d=false:=by exact rfl):bA C f call S g ⟨some d, .fieldAddr T x i,ty,pos,aV,bB⟩=some ⟨[(d, .aD (cells.drop off))],[],[]⟩:=by show tD C f _ T i (un g (S.get C x))=_;have hl':off≤cells.length:=Do hl;have h0':0<m:=of_decide_eq_true (lG h0);simp only[tD,hf.fd,hx,eJ,hz];rw[if_pos ⟨h0',hl'⟩];rfl
theorem nY{i off m:Nat}{cells cs:List U}[hf:Fd C T i off m false](hx:un g (S.get C x)= .agg cells:=by first|exact rfl|exact cp)(hm:m=1:=by exact rfl)(hv:cells.drop off=v::cs:=by exact rfl)(hl:Nat.ble (off+1) cells.length=true:=by exact rfl):bA C f call S g ⟨some d, .field T x i,ty,pos,aV,bB⟩=some ⟨[(d,v)],[],[]⟩:=by show yq C _ T i (un g (S.get C x))=_;subst hm;have hl':off+1≤cells.length:=Do hl;simp[yq,hf.fd,hx,hl',hv,iL]
theorem bS{e:TypeId}{m:Nat}{bb:Bool}{α:Type}{c:α→List U}{q:List α}{i:Int}{r:α}(hi:idx q i=some r)[hu:c9 C T (.slice e)][hs:cU C e bb m](hx:un g (S.get C x)= .sl (q.map c):=by first|exact rfl|exact cp)(hy:un g (S.get C y)= .val (.int k i):=by first|exact rfl|exact cp)(h0:Nat.blt 0 m=true:=by exact rfl)(hr:(c r).length=m:=by exact rfl):bA C f call S g ⟨some d, .indexAddr T x y,ty,pos,aV,bB⟩=some ⟨[(d, .aD (c r))],[],[]⟩:=by show mc C S _ T (un g (S.get C x)) (eo (un g (S.get C y)))=_;have h0':0<m:=of_decide_eq_true (lG h0);have h1:=B8 (c:=c) hi;unfold idx at h1;split at h1;·{rename_i hp;simp only[hx,hy,eo,mc,hu.ul,hs.sz,if_pos hp,h1,AC];simp[hr,h0']};·cases h1
def dY(s:ByteArray)(i:Int):Option UInt8:=if 0≤i then s[i.toNat]? else none
theorem eE{s:ByteArray}{i:Int}{r:UInt8}(hi:dY s i=some r)[hu:c9 C T .string](hx:un g (S.get C x)= .val (.string s):=by first|exact rfl|exact cp)(hy:un g (S.get C y)= .val (.int k i):=by first|exact rfl|exact cp):bA C f call S g ⟨some d, .index T x y,ty,pos,aV,bB⟩=some ⟨[(d, .val (.int .u8 r.toNat))],[],[]⟩:=by show tG C _ T (un g (S.get C x)) (eo (un g (S.get C y)))=_;unfold dY at hi;split at hi;·{rename_i hp;simp only[hx,hy,eo,tG,hu.ul,if_pos hp,hi,AC];rfl};·cases hi
section
variable{e:TypeId}{xs:Array Operand}{ts:Array TypeId}{T:TypeId}
theorem c7{α:Type}{c:α→List U}{q:List α}(hx:un g (S.get C x)= .sl (q.map c):=by first|exact rfl|exact cp)[hu:c9 C T (.slice e)]:bA C f call S g ⟨some d, .call ⟨.builtin .len,⟨[x]⟩,⟨[T]⟩⟩,ty,pos,aV,bB⟩=some ⟨[(d, .val (.int .i64 q.length))],[],[]⟩:=by show qO C _ _ ([x].map fun x=>un g (S.get C x))=_;simp[hx,qO,hu.ul,Cr,Cs,tL]
theorem rm{id:Id}{off m m':Nat}(hx:un g (S.get C x)= .rs id off m':=by first|exact rfl|exact cp)(hm:m'=m:=by first|exact List.length_map _|exact rfl)[hu:c9 C T (.slice e)]:bA C f call S g ⟨some d, .call ⟨.builtin .len,⟨[x]⟩,⟨[T]⟩⟩,ty,pos,aV,bB⟩=some ⟨[(d, .val (.int .i64 m))],[],[]⟩:=by show qO C _ _ ([x].map fun x=>un g (S.get C x))=_;simp[hx,qO,hu.ul,Cr,Cs,tL,hm]
theorem gP{s:ByteArray}(hx:un g (S.get C x)= .val (.string s):=by first|exact rfl|exact cp)[hu:c9 C T .string]:bA C f call S g ⟨some d, .call ⟨.builtin .len,⟨[x]⟩,⟨[T]⟩⟩,ty,pos,aV,bB⟩=some ⟨[(d, .val (.int .i64 s.size))],[],[]⟩:=by show qO C _ _ ([x].map fun x=>un g (S.get C x))=_;simp[hx,qO,hu.ul,Cr,tL]
end
theorem Sa:([]:List (Nat×Operand)).map (fun p=>(p.1,un g (S.get C p.2)))=[]:=rfl
theorem ahq{i:Nat}{l:List (Nat×Operand)}{l':List (Nat×U)}(hx:un g (S.get C x)=v)(k:l.map (fun p=>(p.1,un g (S.get C p.2)))=l'):((i,x)::l).map (fun p=>(p.1,un g (S.get C p.2)))=(i,v)::l':=by simp[hx,k]
theorem F3{l:List (Nat×Operand)}{l':List (Nat×U)}(h:l.map (fun p=>(p.1,un g (S.get C p.2)))=l':=by repeat(first|exact Sa|(apply ahq;exact gt))):l.map (fun p=>(p.1,un g (S.get C p.2)))=l':=h
theorem dw{p:List (Nat×Operand)}{fU cs cs0:List U}{pl:List (Nat×Nat×Bool)}{ps:List (Nat×U)}[hz:jO C T fU][hp:Pl C T pl](hq:(p.map fun p=>(p.1,un g (S.get C p.2)))=ps:=by exact F3)(hf:vJ pl fU ps=some cs0:=by exact rfl)(hc:cs0=cs:=by exact spine)(jX:C.uV f d=[]:=by exact rfl):bA C f call S g ⟨some d, .build T ⟨p⟩,ty,pos,aV,bB⟩=some ⟨[(d, .agg cs)],[],[]⟩:=by show tC C f _ T (p.map fun p=>(p.1,un g (S.get C p.2)))=_;rw[hq];simp[tC,hz.fU,hp.pl,hf,hc,DB,jX,uW]
theorem iM{p:List (Nat×Operand)}{fU TJ cs cs0:List U}{l:List Nat}{pl:List (Nat×Nat×Bool)}{ps:List (Nat×U)}[hz:jO C T fU][hp:Pl C T pl](jX:C.uV f d=l:=by exact rfl)(yZ:uW l fU=TJ:=by exact rfl)(hq:(p.map fun p=>(p.1,un g (S.get C p.2)))=ps:=by exact F3)(hf:vJ pl TJ ps=some cs0:=by exact rfl)(hc:cs0=cs:=by exact spine):bA C f call S g ⟨some d, .build T ⟨p⟩,ty,pos,aV,bB⟩=some ⟨[(d, .agg cs)],[],[]⟩:=by subst yZ;show tC C f _ T (p.map fun p=>(p.1,un g (S.get C p.2)))=_;rw[hq];simp[tC,hz.fU,hp.pl,hf,hc,DB,jX]
theorem zv{dr:Fn}{fs cs:Array Operand}{fa fb:List U}(ha:(fs.toList.map fun x=>un g (S.get C x))=fa:=by exact spine)(hb:(cs.toList.map fun x=>un g (S.get C x))=fb:=by exact spine):bA C f call S g ⟨some d, .makeFunc dr fs cs,ty,pos,aV,bB⟩=some ⟨[(d, .fn dr fa fb)],[],[]⟩:=by subst ha hb;rfl
theorem cN{vs:List U}{i:Nat}(hx:un g (S.get C x)= .aS vs:=by first|exact rfl|exact cp)(hi:vs[i]? =some v:=by exact rfl):bA C f call S g ⟨some d, .extract x i,ty,pos,aV,bB⟩=some ⟨[(d,v)],[],[]⟩:=by show yp _ (un g (S.get C x)) i=_;rw[hx];simp[yp,hi]
theorem bT(hx:un g (S.get C x)=v:=by exact gt)(hv:(match v with| .aD _| .mp _ _ _| .fn (.func _) _ _=>true|_=>false)=true:=by exact rfl):bA C f call S g ⟨some d, .nilCheck x,ty,pos,aV,bB⟩=some ⟨[(d,v)],[],[]⟩:=by show A1 _ (un g (S.get C x))=_;rw[hx];cases v with|fn dr a b=>(cases dr<;>first|rfl|cases hv)|aD _=>(rfl)|mp _ _ _=>(rfl)|_=>cases hv
theorem aeH{P:Program}{ts:Array TypeId}{k:IntKind}{a b:Int}:Ft P ts ty [.int k a, .int k b]=some (.int k (max a b)):=by have e:(if b>a then b else a)=max a b:=by{omega};simp[Ft,Builtin.max_,Builtin.max2,cZ,List.foldlM,bind,Sem.bind,pure,e]
theorem aeM{P:Program}{ts:Array TypeId}{k:IntKind}{a b:Int}:Fv P ts ty [.int k a, .int k b]=some (.int k (min a b)):=by have e:(if b<a then b else a)=min a b:=by{omega};simp[Fv,Builtin.min_,Builtin.min2,cZ,List.foldlM,bind,Sem.bind,pure,e]
theorem Kx{k:IntKind}{a b:Int}{ts:Array TypeId}(hx:un g (S.get C x)= .val (.int k a):=by first|exact rfl|exact cp)(hy:un g (S.get C y)= .val (.int k b):=by first|exact rfl|exact cp):bA C f call S g ⟨some d, .call ⟨.builtin .max,⟨[x,y]⟩,ts⟩,ty,pos,aV,bB⟩=some ⟨[(d, .val (.int k (max a b)))],[],[]⟩:=by show(match iT ([x,y].map fun x=>un g (S.get C x))with|some vs=>lB _ (Ft C.P ts ty vs)|none=>none)=_;simp only[GE,List.map_nil,hx,hy,iT,GT,aeH];rfl
theorem Rp{k:IntKind}{a b:Int}{ts:Array TypeId}(hx:un g (S.get C x)= .val (.int k a):=by first|exact rfl|exact cp)(hy:un g (S.get C y)= .val (.int k b):=by first|exact rfl|exact cp):bA C f call S g ⟨some d, .call ⟨.builtin .min,⟨[x,y]⟩,ts⟩,ty,pos,aV,bB⟩=some ⟨[(d, .val (.int k (min a b)))],[],[]⟩:=by show(match iT ([x,y].map fun x=>un g (S.get C x))with|some vs=>lB _ (Fv C.P ts ty vs)|none=>none)=_;simp only[GE,List.map_nil,hx,hy,iT,GT,aeM];rfl
/-! ### Parts of slices and strings -/
def slc{α:Type}(l:List α)(lo hi:Option Int):Option (List α):=(bounds (lo.map some) (hi.map some) l.length).map fun p=>(l.take p.2).drop p.1
def iS(s:ByteArray)(lo hi:Option Int):Option ByteArray:=(bounds (lo.map some) (hi.map some) s.size).map fun p=>s.extract p.1 p.2
theorem Eb:(none.map fun y=>eo (un g (S.get C y)))=(none:Option Int).map some:=rfl
theorem Ec{n:Int}(h:un g (S.get C y)= .val (.int k n):=by first|exact rfl|exact cp):((some y).map fun y=>eo (un g (S.get C y)))=(some n).map some:=by show some (eo (un g (S.get C y)))=_;rw[h];rfl
theorem vm{α:Type}{c:α→List U}{q:List α}{m:Nat}(hc:∀x,(c x).length=m):(q.map c).all (·.length==m)=true:=by simp[hc]
theorem afz{e:TypeId}{α:Type}{c:α→List U}{q r:List α}{lo hi:Option Operand}{lo' hi':Option Int}{m:Nat}{bb:Bool}(hr:slc q lo' hi'=some r)[hu:c9 C T (.slice e)][hs:cU C e bb m](hx:un g (S.get C x)= .sl (q.map c):=by first|exact rfl|exact cp)(h1:(lo.map fun y=>eo (un g (S.get C y)))=lo'.map some:=by first|exact Eb|exact Ec)(h2:(hi.map fun y=>eo (un g (S.get C y)))=hi'.map some:=by first|exact Eb|exact Ec)(h0:Nat.blt 0 m=true:=by exact rfl)(hl:∀x,(c x).length=m:=by exact fun _=>rfl):bA C f call S g ⟨some d, .slice T x lo hi none,ty,pos,aV,bB⟩=some ⟨[(d, .sl (r.map c))],[],[]⟩:=by unfold slc at hr;obtain⟨p,hp,rfl⟩:=Option.map_eq_some_iff.1 hr;show nD C S _ T (un g (S.get C x)) _ _=_;have h0':0<m:=of_decide_eq_true (lG h0);rw[hx];simp only[nD,hu.ul,hs.sz,h1,h2,List.length_map,hp,AC];rw[if_pos ⟨h0',vm hl⟩];simp[ret,put]
theorem kL{s r:ByteArray}{lo hi:Option Operand}{lo' hi':Option Int}(hr:iS s lo' hi'=some r)[hu:c9 C T .string](hx:un g (S.get C x)= .val (.string s):=by first|exact rfl|exact cp)(h1:(lo.map fun y=>eo (un g (S.get C y)))=lo'.map some:=by first|exact Eb|exact Ec)(h2:(hi.map fun y=>eo (un g (S.get C y)))=hi'.map some:=by first|exact Eb|exact Ec):bA C f call S g ⟨some d, .slice T x lo hi none,ty,pos,aV,bB⟩=some ⟨[(d, .val (.string r))],[],[]⟩:=by show nD C S _ T (un g (S.get C x)) (lo.map fun y=>eo (un g (S.get C y))) (hi.map fun y=>eo (un g (S.get C y)))=_;unfold iS at hr;obtain⟨p,hp,rfl⟩:=Option.map_eq_some_iff.1 hr;rw[hx,h1,h2];simp only[nD,hu.ul,hp,AC];rfl
end
end Go.Ab
