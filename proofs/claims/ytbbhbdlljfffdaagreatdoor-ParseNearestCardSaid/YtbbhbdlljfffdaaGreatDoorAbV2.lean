import Derived.Test.YtbbhbdlljfffdaaGreatDoorAbEqS
open List renaming map_cons→Ha
open Nat renaming le_of_ble_eq_true→GT
open Option renaming bind_some→GE,map_some→Hb
set_option linter.all false
namespace Go.Ab
open Go
inductive cI where|nil|code(n:Int)|other deriving DecidableEq,Inhabited
def fh(t:TypeId):cI→U| .nil=> .val .nilIface| .code n=> .val (.iface t (.int .i64 n))| .other=> .nn
/-! ### Facts about the program's types, found by their numbers -/
class cQ(C:aB)(t:TypeId)(d:outParam TypeDesc):Prop where ul:C.P.underlying t=some d
class cK(C:aB)(t:TypeId)(b:outParam Bool)(n:outParam Nat):Prop where
 iH:iM C t=some b
 sz:fE C t=some n
class Fd(C:aB)(t i:Nat)(off n:outParam Nat)(b:outParam Bool):Prop where fd:vu C t i=some (off,n,b)
class iU(C:aB)(t:TypeId)(cs:outParam (List U)):Prop where eT:sF C t=some cs
class om(C:aB)(t:TypeId)(cs:outParam (List U)):Prop where LC:sG C t=some cs
class Pl(C:aB)(t:TypeId)(pl:outParam (List (Nat×Nat×Bool))):Prop where pl:D7 C t=some pl
def vb(C:aB)(e:TypeId)(m:Nat):Bool:=match C.P.info? e with|some i=>i.size==m&&decide (0<m)&&decide (i.bytes≤4096)&&x6 i|none=>false
class pq(C:aB)(e:TypeId)(m:outParam Nat):Prop where ao:vb C e m=true
class lN{α:Type}(c:α→List U):Prop where fl:∀x,cp (c x)=true
class pF{α:Type}(c:α→List U):Prop where
 im:∀x,dG (c x)=true
 ce:∀x,(c x).all U.cell=true
class ye{α:Type}(c:α→List U)(c':outParam (α→List U)):Prop where cS:∀x,gI (c x)=c' x
class Za{α:Type}(c:α→List U):Prop where mi:∀x,jI (c x)=true
section
variable{g g' h k:Bool}{x:U}
theorem AA{t:TypeId}{e:cI}:un g (fh t e)=fh t e:=by cases e<;>cases g<;>rfl
theorem YK{p:Bool}:un (true&&p) (.cF (p==true) x)=x:=by cases p<;>rfl
theorem YL{p:Bool}:un (true&& !p) (.cF (p==false) x)=x:=by cases p<;>rfl
theorem YM{p:Bool}:un (g&&p) (.cF (g&&(p==true)) x)=x:=by cases p<;>cases g<;>rfl
end
theorem bN{a b:U}(h:a=b:=by first|exact Lc _|exact AA|exact YJ|exact adr|exact YK|exact YL|exact YM|exact adn|exact adf|exact adg|exact adj|exact adh|exact adi):a=b:=h
theorem gt{a b:U}(h:a=b:=by first|exact(rfl:_=U.val _)|exact(rfl:_=U.sl _)|exact(rfl:_=U.rs _ _ _)|exact(rfl:_=U.mp _ _ _)|exact(rfl:_=U.aL _)|exact(rfl:_=U.agg _)|exact(rfl:_=U.bQ)|exact(rfl:_=U.aE _)|exact(rfl:_=U.fn _ _ _)|exact AA|exact YJ|exact(rfl:_=U.nn)|exact(rfl:_=U.mr _)|exact(rfl:_=U.im _)|exact(rfl:_=U.dJ _)|exact bN):a=b:=h
theorem Yt{α:Type}{a:α}{l t t':List α}(h:l=a::t)(k:t=t'):l=a::t':=by rw[h,k]
theorem Yu{α:Type}{l:List α}(h:l=[]:=by exact rfl):l=[]:=h
theorem spine{α:Type}{a b:List α}(h:a=b:=by repeat(first|exact Yu|apply Yt rfl)):a=b:=h
theorem IU{α:Type}{o:Option α}(h:o=none):o.isNone=true:=by rw[h];rfl
section
variable{C:aB}{f:FuncId}{call:eV}{S:ah}{g:Bool}
variable{d:Nat}{ty:TypeId}{pos:String}{aM:Array Edge}{bp:Option (Nat×Bool)}{v v':U}
variable{x y z:Operand}{k:IntKind}{a b:Int}{T cM:TypeId}
theorem aa(h:un g (S.get C x)=v:=by exact gt):bn C f call S g ⟨some d, .move x,ty,pos,aM,bp⟩=some ⟨[(d,v)],[],[]⟩:=by subst h;rfl
theorem af(h:un g (S.get C x)=v:=by exact gt):bn C f call S g ⟨some d, .assign x,ty,pos,aM,bp⟩=some ⟨[(d,v)],[],[]⟩:=by subst h;rfl
theorem kM{op:BinOp}{Gn Gp:U}{dV fO kf:Value}(hx:un g (S.get C x)=Gn)(hy:un g (S.get C y)=Gp)(h1:lD Gn=some dV)(h2:lD Gp=some fO)(hb:dM C.P op T x y dV fO=some kf)(hs:dw kf=true):bn C f call S g ⟨some d, .binOp op T x y cM,ty,pos,aM,bp⟩=some ⟨[(d, .val kf)],[],[]⟩:=by show ov C _ op T x y (un g (S.get C x)) (un g (S.get C y))=_;rw[hx,hy];simp[ov,h1,h2,hb,hs]
theorem ni{op:BinOp}{kf:Value}(hb:dM C.P op T x y (.int k a) (.int k b)=some kf)(hs:dw kf=true)(hx:un g (S.get C x)= .val (.int k a))(hy:un g (S.get C y)= .val (.int k b)):bn C f call S g ⟨some d, .binOp op T x y cM,ty,pos,aM,bp⟩=some ⟨[(d, .val kf)],[],[]⟩:=kM hx hy rfl rfl hb hs
theorem eY(hx:un g (S.get C x)= .val (.int k a):=by first|exact rfl|exact bN)(hy:un g (S.get C y)= .val (.int k b):=by first|exact rfl|exact bN):bn C f call S g ⟨some d, .binOp .add T x y cM,ty,pos,aM,bp⟩=some ⟨[(d, .val (.int k (k.wrap (a+b))))],[],[]⟩:=ni OB rfl hx hy
theorem iA(hx:un g (S.get C x)= .val (.int k a):=by first|exact rfl|exact bN)(hy:un g (S.get C y)= .val (.int k b):=by first|exact rfl|exact bN):bn C f call S g ⟨some d, .binOp .sub T x y cM,ty,pos,aM,bp⟩=some ⟨[(d, .val (.int k (k.wrap (a-b))))],[],[]⟩:=ni OO rfl hx hy
theorem VS(hx:un g (S.get C x)= .val (.int k a):=by first|exact rfl|exact bN)(hy:un g (S.get C y)= .val (.int k b):=by first|exact rfl|exact bN):bn C f call S g ⟨some d, .binOp .mul T x y cM,ty,pos,aM,bp⟩=some ⟨[(d, .val (.int k (k.wrap (a*b))))],[],[]⟩:=ni OJ rfl hx hy
theorem aJ(hx:un g (S.get C x)= .val (.int k a):=by first|exact rfl|exact bN)(hy:un g (S.get C y)= .val (.int k b):=by first|exact rfl|exact bN):bn C f call S g ⟨some d, .binOp .eql T x y cM,ty,pos,aM,bp⟩=some ⟨[(d, .val (.bool (a==b)))],[],[]⟩:=ni OD rfl hx hy
theorem jK(hx:un g (S.get C x)= .val (.int k a):=by first|exact rfl|exact bN)(hy:un g (S.get C y)= .val (.int k b):=by first|exact rfl|exact bN):bn C f call S g ⟨some d, .binOp .neq T x y cM,ty,pos,aM,bp⟩=some ⟨[(d, .val (.bool (a !=b)))],[],[]⟩:=ni OK rfl hx hy
theorem fC(hx:un g (S.get C x)= .val (.int k a):=by first|exact rfl|exact bN)(hy:un g (S.get C y)= .val (.int k b):=by first|exact rfl|exact bN):bn C f call S g ⟨some d, .binOp .lss T x y cM,ty,pos,aM,bp⟩=some ⟨[(d, .val (.bool (decide (a<b))))],[],[]⟩:=ni OI rfl hx hy
theorem eZ(hx:un g (S.get C x)= .val (.int k a):=by first|exact rfl|exact bN)(hy:un g (S.get C y)= .val (.int k b):=by first|exact rfl|exact bN):bn C f call S g ⟨some d, .binOp .leq T x y cM,ty,pos,aM,bp⟩=some ⟨[(d, .val (.bool (decide (a≤b))))],[],[]⟩:=ni OH rfl hx hy
theorem fR(hx:un g (S.get C x)= .val (.int k a):=by first|exact rfl|exact bN)(hy:un g (S.get C y)= .val (.int k b):=by first|exact rfl|exact bN):bn C f call S g ⟨some d, .binOp .gtr T x y cM,ty,pos,aM,bp⟩=some ⟨[(d, .val (.bool (decide (b<a))))],[],[]⟩:=ni OG rfl hx hy
theorem e8(hx:un g (S.get C x)= .val (.int k a):=by first|exact rfl|exact bN)(hy:un g (S.get C y)= .val (.int k b):=by first|exact rfl|exact bN):bn C f call S g ⟨some d, .binOp .geq T x y cM,ty,pos,aM,bp⟩=some ⟨[(d, .val (.bool (decide (b≤a))))],[],[]⟩:=ni OF rfl hx hy
theorem OE{P:Program}{a b:ByteArray}:dM P .eql T x y (.string a) (.string b)=some (.bool (a.toList==b.toList)):=by simp[dM,eqGuard,binOp,Op.stringOp,cu,bind,Sem.bind,pure]
theorem OL{P:Program}{a b:ByteArray}:dM P .neq T x y (.string a) (.string b)=some (.bool (a.toList !=b.toList)):=by simp[dM,eqGuard,binOp,Op.stringOp,cu,bind,Sem.bind,pure,bne]
theorem eN{a b:ByteArray}(hx:un g (S.get C x)= .val (.string a):=by first|exact rfl|exact bN)(hy:un g (S.get C y)= .val (.string b):=by first|exact rfl|exact bN):bn C f call S g ⟨some d, .binOp .eql T x y cM,ty,pos,aM,bp⟩=some ⟨[(d, .val (.bool (a.toList==b.toList)))],[],[]⟩:=kM hx hy rfl rfl OE rfl
theorem Dt{a b:ByteArray}(hx:un g (S.get C x)= .val (.string a):=by first|exact rfl|exact bN)(hy:un g (S.get C y)= .val (.string b):=by first|exact rfl|exact bN):bn C f call S g ⟨some d, .binOp .neq T x y cM,ty,pos,aM,bp⟩=some ⟨[(d, .val (.bool (a.toList !=b.toList)))],[],[]⟩:=kM hx hy rfl rfl OL rfl
theorem zT{op:BinOp}{xs ys:List U}{vx vy:List Value}{q:Bool}(hb:dM C.P op T x y (.agg ⟨vx⟩) (.agg ⟨vy⟩)=some (.bool q))(hx:un g (S.get C x)= .agg xs:=by first|exact rfl|exact bN)(hy:un g (S.get C y)= .agg ys:=by first|exact rfl|exact bN)(h1:gk xs=some vx:=by exact rfl)(h2:gk ys=some vy:=by exact rfl):bn C f call S g ⟨some d, .binOp op T x y cM,ty,pos,aM,bp⟩=some ⟨[(d, .val (.bool q))],[],[]⟩:=kM hx hy (by simp[lD,h1]) (by simp[lD,h2]) hb rfl
theorem e9{p:Bool}(hx:un g (S.get C x)= .val (.bool p):=by first|exact rfl|exact bN):bn C f call S g ⟨some d, .unOp .not T x,ty,pos,aM,bp⟩=some ⟨[(d, .val (.bool !p))],[],[]⟩:=by show q9 C _ .not (un g (S.get C x))=_;rw[hx];rfl
theorem VW{op:UnOp}{dV kf:Value}(hb:x4 C.P op dV=some kf)(hs:dw kf=true)(hx:un g (S.get C x)= .val dV:=by first|exact rfl|exact bN):bn C f call S g ⟨some d, .unOp op T x,ty,pos,aM,bp⟩=some ⟨[(d, .val kf)],[],[]⟩:=by show q9 C _ op (un g (S.get C x))=_;rw[hx];simp[hb,hs]
theorem VQ{dV kf:Value}(hb:yP C.P T cM dV=some kf)(hx:un g (S.get C x)= .val dV:=by first|exact rfl|exact bN)(hs:dw kf=true:=by exact rfl)(hnb:pL C T cM=false:=by first|rfl|decide):bn C f call S g ⟨some d, .convert T cM x,ty,pos,aM,bp⟩=some ⟨[(d, .val kf)],[],[]⟩:=by show ox C _ T cM (un g (S.get C x))=_;rw[hx,Qy hnb];simp[hb,hs]
theorem bG{p q r:Bool}(hx:un g (S.get C x)= .val (.bool p):=by first|exact rfl|exact bN)(hy:un (g&&p) (S.get C y)= .val (.bool q):=by first|exact rfl|exact bN)(hz:un (g&& !p) (S.get C z)= .val (.bool r):=by first|exact rfl|exact bN):bn C f call S g ⟨some d, .pick x y z,ty,pos,aM,bp⟩=some ⟨[(d, .val (.bool (if p then q else r)))],[],[]⟩:=by show pV _ (un g (S.get C x)) (un (g&&jS (un g (S.get C x))) (S.get C y)) (un (g&& !jS (un g (S.get C x))) (S.get C z))=_;rw[hx];simp only[jS];rw[hy,hz];rfl
theorem cq{q:Bool}(hx:un g (S.get C x)= .val (.bool true):=by exact rfl)(hy:un (g&&true) (S.get C y)= .val (.bool q):=by first|exact rfl|exact bN):bn C f call S g ⟨some d, .pick x y z,ty,pos,aM,bp⟩=some ⟨[(d, .val (.bool q))],[],[]⟩:=by show pV _ (un g (S.get C x)) (un (g&&jS (un g (S.get C x))) (S.get C y)) (un (g&& !jS (un g (S.get C x))) (S.get C z))=_;rw[hx];simp only[jS];rw[hy];generalize un (g&& !true) (S.get C z)=w;cases w with|val v=>(cases v<;>rfl)|_=>rfl
theorem bF{q:Bool}(hx:un g (S.get C x)= .val (.bool false):=by exact rfl)(hz:un (g&&true) (S.get C z)= .val (.bool q):=by first|exact rfl|exact bN):bn C f call S g ⟨some d, .pick x y z,ty,pos,aM,bp⟩=some ⟨[(d, .val (.bool q))],[],[]⟩:=by show pV _ (un g (S.get C x)) (un (g&&jS (un g (S.get C x))) (S.get C y)) (un (g&& !jS (un g (S.get C x))) (S.get C z))=_;rw[hx];simp only[jS,Bool.not_false];rw[hz];generalize un (g&&false) (S.get C y)=w;cases w with|val v=>(cases v<;>rfl)|_=>rfl
/-! ### Memory that does not change -/
theorem qo{bb:Bool}{m:Nat}{cs cs':List U}[ha:cK C T bb m](hin:(C.dN f).contains d=true:=by exact rfl)(hx:un g (S.get C x)=v:=by exact gt)(hc:lS bb v=some cs:=by exact rfl)(hz:iN cs=cs':=by exact spine)(hi:dG cs'=true:=by exact rfl):bn C f call S g ⟨some d, .box T x,ty,pos,aM,bp⟩=some ⟨[(d, .aL cs')],[],[]⟩:=by show mJ C f S _ T (un g (S.get C x))=_;simp only[mJ,ha.iH,hx,hc,dS,hin,hz,hi,Bool.and_self,if_true];rfl
theorem aO{m:Nat}{cells cs:List U}[ha:cK C T false m](hx:un g (S.get C x)= .aL cells:=by first|exact rfl|exact bN)(hm:m=1:=by exact rfl)(hv:cells=v::cs:=by exact rfl):bn C f call S g ⟨some d, .load T x,ty,pos,aM,bp⟩=some ⟨[(d,v)],[],[]⟩:=by show iY C S _ T (un g (S.get C x))=_;subst hm hv;simp[iY,ha.iH,ha.sz,hx,gx]
theorem gM{m:Nat}{cells cs:List U}[ha:cK C T true m](hx:un g (S.get C x)= .aL cells:=by first|exact rfl|exact bN)(hl:Nat.ble m cells.length=true:=by exact rfl)(hv:cells.take m=cs:=by exact spine):bn C f call S g ⟨some d, .load T x,ty,pos,aM,bp⟩=some ⟨[(d, .agg cs)],[],[]⟩:=by show iY C S _ T (un g (S.get C x))=_;have hl':m≤cells.length:=GT hl;simp[iY,ha.iH,ha.sz,hx,hl',hv,gx]
theorem bq{i off m:Nat}{bb:Bool}{cells:List U}[hf:Fd C T i off m bb](hx:un g (S.get C x)= .aL cells:=by first|exact rfl|exact bN)(h0:Nat.blt 0 m=true:=by exact rfl)(hl:Nat.ble off cells.length=true:=by exact rfl)(hz:(C.dN f).contains d=false:=by exact rfl):bn C f call S g ⟨some d, .fieldAddr T x i,ty,pos,aM,bp⟩=some ⟨[(d, .aL (cells.drop off))],[],[]⟩:=by show pQ C f _ T i (un g (S.get C x))=_;have hl':off≤cells.length:=GT hl;have h0':0<m:=of_decide_eq_true (kz h0);simp only[pQ,hf.fd,hx,dS,hz];rw[AC ⟨h0',hl'⟩];rfl
theorem kL{i off m:Nat}{cells cs:List U}[hf:Fd C T i off m false](hx:un g (S.get C x)= .agg cells:=by first|exact rfl|exact bN)(hm:m=1:=by exact rfl)(hv:cells.drop off=v::cs:=by exact rfl)(hl:Nat.ble (off+1) cells.length=true:=by exact rfl):bn C f call S g ⟨some d, .field T x i,ty,pos,aM,bp⟩=some ⟨[(d,v)],[],[]⟩:=by show tf C _ T i (un g (S.get C x))=_;subst hm;have hl':off+1≤cells.length:=GT hl;simp[tf,hf.fd,hx,hl',hv,gx]
theorem fH{e:TypeId}{m:Nat}{bb:Bool}{α:Type}{c:α→List U}{q:List α}{i:Int}{r:α}(hi:idx q i=some r)[hu:cQ C T (.slice e)][hs:cK C e bb m](hx:un g (S.get C x)= .sl (q.map c):=by first|exact rfl|exact bN)(hy:un g (S.get C y)= .val (.int k i):=by first|exact rfl|exact bN)(h0:Nat.blt 0 m=true:=by exact rfl)(hr:(c r).length=m:=by exact rfl):bn C f call S g ⟨some d, .indexAddr T x y,ty,pos,aM,bp⟩=some ⟨[(d, .aL (c r))],[],[]⟩:=by show k3 C S _ T (un g (S.get C x)) (dA (un g (S.get C y)))=_;have h0':0<m:=of_decide_eq_true (kz h0);have h1:=CU (c:=c) hi;unfold idx at h1;split at h1;·{rename_i hp;simp only[hx,hy,dA,k3,hu.ul,hs.sz,AC hp,h1,GE];simp[hr,h0']};·cases h1
def dn(s:ByteArray)(i:Int):Option UInt8:=if 0≤i then s[i.toNat]? else none
theorem dB{s:ByteArray}{i:Int}{r:UInt8}(hi:dn s i=some r)[hu:cQ C T .string](hx:un g (S.get C x)= .val (.string s):=by first|exact rfl|exact bN)(hy:un g (S.get C y)= .val (.int k i):=by first|exact rfl|exact bN):bn C f call S g ⟨some d, .index T x y,ty,pos,aM,bp⟩=some ⟨[(d, .val (.int .u8 r.toNat))],[],[]⟩:=by show pT C _ T (un g (S.get C x)) (dA (un g (S.get C y)))=_;unfold dn at hi;split at hi;·{rename_i hp;simp only[hx,hy,dA,pT,hu.ul,AC hp,hi,GE];rfl};·cases hi
section
variable{e:TypeId}{xs:Array Operand}{ts:Array TypeId}{T:TypeId}
theorem eO{α:Type}{c:α→List U}{q:List α}(hx:un g (S.get C x)= .sl (q.map c):=by first|exact rfl|exact bN)[hu:cQ C T (.slice e)]:bn C f call S g ⟨some d, .call ⟨.builtin .len,⟨[x]⟩,⟨[T]⟩⟩,ty,pos,aM,bp⟩=some ⟨[(d, .val (.int .i64 q.length))],[],[]⟩:=by show nH C _ _ ([x].map fun x=>un g (S.get C x))=_;simp[hx,nH,hu.ul,w4,w5,pX]
theorem qp{id:Id}{off m m':Nat}(hx:un g (S.get C x)= .rs id off m':=by first|exact rfl|exact bN)(hm:m'=m:=by first|exact List.length_map _|exact rfl)[hu:cQ C T (.slice e)]:bn C f call S g ⟨some d, .call ⟨.builtin .len,⟨[x]⟩,⟨[T]⟩⟩,ty,pos,aM,bp⟩=some ⟨[(d, .val (.int .i64 m))],[],[]⟩:=by show nH C _ _ ([x].map fun x=>un g (S.get C x))=_;simp[hx,nH,hu.ul,w4,w5,pX,hm]
theorem fI{s:ByteArray}(hx:un g (S.get C x)= .val (.string s):=by first|exact rfl|exact bN)[hu:cQ C T .string]:bn C f call S g ⟨some d, .call ⟨.builtin .len,⟨[x]⟩,⟨[T]⟩⟩,ty,pos,aM,bp⟩=some ⟨[(d, .val (.int .i64 s.size))],[],[]⟩:=by show nH C _ _ ([x].map fun x=>un g (S.get C x))=_;simp[hx,nH,hu.ul,w4,pX]
end
theorem Kc:([]:List (Nat×Operand)).map (fun p=>(p.1,un g (S.get C p.2)))=[]:=rfl
theorem XC{i:Nat}{l:List (Nat×Operand)}{l':List (Nat×U)}(hx:un g (S.get C x)=v)(k:l.map (fun p=>(p.1,un g (S.get C p.2)))=l'):((i,x)::l).map (fun p=>(p.1,un g (S.get C p.2)))=(i,v)::l':=by simp[hx,k]
theorem Ah{l:List (Nat×Operand)}{l':List (Nat×U)}(h:l.map (fun p=>(p.1,un g (S.get C p.2)))=l':=by repeat(first|exact Kc|(apply XC;exact gt))):l.map (fun p=>(p.1,un g (S.get C p.2)))=l':=h
theorem c7{p:List (Nat×Operand)}{eT cs cs0:List U}{pl:List (Nat×Nat×Bool)}{ps:List (Nat×U)}[hz:iU C T eT][hp:Pl C T pl](hq:(p.map fun p=>(p.1,un g (S.get C p.2)))=ps:=by exact Ah)(hf:rf pl eT ps=some cs0:=by exact rfl)(hc:cs0=cs:=by exact spine)(hJ:C.qI f d=[]:=by exact rfl):bn C f call S g ⟨some d, .build T ⟨p⟩,ty,pos,aM,bp⟩=some ⟨[(d, .agg cs)],[],[]⟩:=by show pP C f _ T (p.map fun p=>(p.1,un g (S.get C p.2)))=_;rw[hq];simp[pP,hz.eT,hp.pl,hf,hc,x7,hJ,qJ]
theorem gy{p:List (Nat×Operand)}{eT LA cs cs0:List U}{l:List Nat}{pl:List (Nat×Nat×Bool)}{ps:List (Nat×U)}[hz:iU C T eT][hp:Pl C T pl](hJ:C.qI f d=l:=by exact rfl)(tP:qJ l eT=LA:=by exact rfl)(hq:(p.map fun p=>(p.1,un g (S.get C p.2)))=ps:=by exact Ah)(hf:rf pl LA ps=some cs0:=by exact rfl)(hc:cs0=cs:=by exact spine):bn C f call S g ⟨some d, .build T ⟨p⟩,ty,pos,aM,bp⟩=some ⟨[(d, .agg cs)],[],[]⟩:=by subst tP;show pP C f _ T (p.map fun p=>(p.1,un g (S.get C p.2)))=_;rw[hq];simp[pP,hz.eT,hp.pl,hf,hc,x7,hJ]
theorem uj{dc:Fn}{fs cs:Array Operand}{fa fb:List U}(ha:(fs.toList.map fun x=>un g (S.get C x))=fa:=by exact spine)(hb:(cs.toList.map fun x=>un g (S.get C x))=fb:=by exact spine):bn C f call S g ⟨some d, .makeFunc dc fs cs,ty,pos,aM,bp⟩=some ⟨[(d, .fn dc fa fb)],[],[]⟩:=by subst ha hb;rfl
theorem dI{vs:List U}{i:Nat}(hx:un g (S.get C x)= .aE vs:=by first|exact rfl|exact bN)(hi:vs[i]? =some v:=by exact rfl):bn C f call S g ⟨some d, .extract x i,ty,pos,aM,bp⟩=some ⟨[(d,v)],[],[]⟩:=by show td _ (un g (S.get C x)) i=_;rw[hx];simp[td,hi]
theorem c8(hx:un g (S.get C x)=v:=by exact gt)(hv:(match v with| .aL _| .mp _ _ _| .fn (.func _) _ _=>true|_=>false)=true:=by exact rfl):bn C f call S g ⟨some d, .nilCheck x,ty,pos,aM,bp⟩=some ⟨[(d,v)],[],[]⟩:=by show vt _ (un g (S.get C x))=_;rw[hx];cases v with|fn dc a b=>(cases dc<;>first|rfl|cases hv)|aL _=>(rfl)|mp _ _ _=>(rfl)|_=>cases hv
theorem Va{P:Program}{ts:Array TypeId}{k:IntKind}{a b:Int}:zI P ts ty [.int k a, .int k b]=some (.int k (max a b)):=by have e:(if b>a then b else a)=max a b:=by{omega};simp[zI,Builtin.max_,Builtin.max2,cu,List.foldlM,bind,Sem.bind,pure,e]
theorem Vb{P:Program}{ts:Array TypeId}{k:IntKind}{a b:Int}:zJ P ts ty [.int k a, .int k b]=some (.int k (min a b)):=by have e:(if b<a then b else a)=min a b:=by{omega};simp[zJ,Builtin.min_,Builtin.min2,cu,List.foldlM,bind,Sem.bind,pure,e]
theorem Ds{k:IntKind}{a b:Int}{ts:Array TypeId}(hx:un g (S.get C x)= .val (.int k a):=by first|exact rfl|exact bN)(hy:un g (S.get C y)= .val (.int k b):=by first|exact rfl|exact bN):bn C f call S g ⟨some d, .call ⟨.builtin .max,⟨[x,y]⟩,ts⟩,ty,pos,aM,bp⟩=some ⟨[(d, .val (.int k (max a b)))],[],[]⟩:=by show(match gk ([x,y].map fun x=>un g (S.get C x))with|some vs=>jn _ (zI C.P ts ty vs)|none=>none)=_;simp only[Ha,List.map_nil,hx,hy,gk,Hb,Va];rfl
theorem Jz{k:IntKind}{a b:Int}{ts:Array TypeId}(hx:un g (S.get C x)= .val (.int k a):=by first|exact rfl|exact bN)(hy:un g (S.get C y)= .val (.int k b):=by first|exact rfl|exact bN):bn C f call S g ⟨some d, .call ⟨.builtin .min,⟨[x,y]⟩,ts⟩,ty,pos,aM,bp⟩=some ⟨[(d, .val (.int k (min a b)))],[],[]⟩:=by show(match gk ([x,y].map fun x=>un g (S.get C x))with|some vs=>jn _ (zJ C.P ts ty vs)|none=>none)=_;simp only[Ha,List.map_nil,hx,hy,gk,Hb,Vb];rfl
/-! ### Parts of slices and strings -/
def slc{α:Type}(l:List α)(lo hi:Option Int):Option (List α):=(bounds (lo.map some) (hi.map some) l.length).map fun p=>(l.take p.2).drop p.1
def iE(s:ByteArray)(lo hi:Option Int):Option ByteArray:=(bounds (lo.map some) (hi.map some) s.size).map fun p=>s.extract p.1 p.2
theorem yH:(none.map fun y=>dA (un g (S.get C y)))=(none:Option Int).map some:=rfl
theorem yI{n:Int}(h:un g (S.get C y)= .val (.int k n):=by first|exact rfl|exact bN):((some y).map fun y=>dA (un g (S.get C y)))=(some n).map some:=by show some (dA (un g (S.get C y)))=_;rw[h];rfl
theorem u6{α:Type}{c:α→List U}{q:List α}{m:Nat}(hc:∀x,(c x).length=m):(q.map c).all (·.length==m)=true:=by simp[hc]
theorem VV{e:TypeId}{α:Type}{c:α→List U}{q r:List α}{lo hi:Option Operand}{lo' hi':Option Int}{m:Nat}{bb:Bool}(hr:slc q lo' hi'=some r)[hu:cQ C T (.slice e)][hs:cK C e bb m](hx:un g (S.get C x)= .sl (q.map c):=by first|exact rfl|exact bN)(h1:(lo.map fun y=>dA (un g (S.get C y)))=lo'.map some:=by first|exact yH|exact yI)(h2:(hi.map fun y=>dA (un g (S.get C y)))=hi'.map some:=by first|exact yH|exact yI)(h0:Nat.blt 0 m=true:=by exact rfl)(hl:∀x,(c x).length=m:=by exact fun _=>rfl):bn C f call S g ⟨some d, .slice T x lo hi none,ty,pos,aM,bp⟩=some ⟨[(d, .sl (r.map c))],[],[]⟩:=by unfold slc at hr;obtain⟨p,hp,rfl⟩:=Option.map_eq_some_iff.1 hr;show mL C S _ T (un g (S.get C x)) _ _=_;have h0':0<m:=of_decide_eq_true (kz h0);rw[hx];simp only[mL,hu.ul,hs.sz,h1,h2,List.length_map,hp,GE];rw[AC ⟨h0',u6 hl⟩];simp[ret,put]
theorem ji{s r:ByteArray}{lo hi:Option Operand}{lo' hi':Option Int}(hr:iE s lo' hi'=some r)[hu:cQ C T .string](hx:un g (S.get C x)= .val (.string s):=by first|exact rfl|exact bN)(h1:(lo.map fun y=>dA (un g (S.get C y)))=lo'.map some:=by first|exact yH|exact yI)(h2:(hi.map fun y=>dA (un g (S.get C y)))=hi'.map some:=by first|exact yH|exact yI):bn C f call S g ⟨some d, .slice T x lo hi none,ty,pos,aM,bp⟩=some ⟨[(d, .val (.string r))],[],[]⟩:=by show mL C S _ T (un g (S.get C x)) (lo.map fun y=>dA (un g (S.get C y))) (hi.map fun y=>dA (un g (S.get C y)))=_;unfold iE at hr;obtain⟨p,hp,rfl⟩:=Option.map_eq_some_iff.1 hr;rw[hx,h1,h2];simp only[mL,hu.ul,hp,GE];rfl
end
end Go.Ab
