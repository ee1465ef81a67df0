import Derived.Test.YtbikcahlonfnmaaGreatAbEqS
namespace Go.Ab
open Go
inductive alO where|nil|code(n:Int)|other deriving DecidableEq,Inhabited
def ia:Option Int→aa|none=> .val (.pointer none)|some n=> .aq [.val (.int .i64 n)]
def jc(o:Option Int):List aa:=[ia o]
/-! ### Facts about the program's types, found by their numbers -/
class eL(C:aO)(t:TypeId)(d:outParam TypeDesc):Prop where ul:C.P.underlying t=some d
class dr (C : aO) (t : TypeId) (b : outParam Bool) (n : outParam Nat) : Prop where
  kY : kK C t = some b
  sz : gL C t = some n
class Fd(C:aO)(t i:Nat)(off n:outParam Nat)(b:outParam Bool):Prop where fd:D6 C t i=some (off,n,b)
class kE(C:aO)(t:TypeId)(cs:outParam (List aa)):Prop where fV:Ai C t=some cs
class jE(C:aO)(t:TypeId)(cs:outParam (List aa)):Prop where OH:Aj C t=some cs
class Pl(C:aO)(t:TypeId)(pl:outParam (List (Nat×Nat×Bool))):Prop where pl:NP C t=some pl
def DB(C:aO)(e:TypeId)(m:Nat):Bool:=match C.P.info? e with|some i=>i.size==m&&decide (0<m)&&decide (i.bytes≤4096)&&GZ i|none=>false
class qz(C:aO)(e:TypeId)(m:outParam Nat):Prop where ao:DB C e m=true
class ja{α:Type}(c:α→List aa):Prop where cY:∀x,cT (c x)=true
class qC {α : Type} (c : α → List aa) : Prop where
  im : ∀ x, ek (c x) = true
  ce : ∀ x, (c x).all aa.cell = true
class G5{α:Type}(c:α→List aa)(c':outParam (α→List aa)):Prop where dW:∀x,jK (c x)=c' x
class alQ{α:Type}(c:α→List aa):Prop where mi:∀x,me (c x)=true
section
variable{g g' h k:Bool}{x:aa}
theorem z8{e:Option Int}:un g (ia e)=ia e:=by cases e<;>cases g<;>rfl
theorem ale{p:Bool}:un (true&&p) (.dz (p==true) x)=x:=by cases p<;>rfl
theorem alf{p:Bool}:un (true&& !p) (.dz (p==false) x)=x:=by cases p<;>rfl
theorem alg{p:Bool}:un (g&&p) (.dz (g&&(p==true)) x)=x:=by cases p<;>cases g<;>rfl
theorem alh{p:Bool}:un (g&& !p) (.dz (g&&(p==false)) x)=x:=by cases p<;>cases g<;>rfl
end
theorem b8{a b:aa}(h:a=b:=by first|exact VR _|exact ald|exact z8|exact aqA|exact ale|exact alf|exact alg|exact alh|exact aqp|exact aqq|exact aqt|exact aqr|exact aqs):a=b:=h
theorem gt{a b:aa}(h:a=b:=by first|exact(rfl:_=aa.val _)|exact(rfl:_=aa.sl _)|exact(rfl:_=aa.rs _ _ _)|exact(rfl:_=aa.mp _ _ _)|exact(rfl:_=aa.aq _)|exact(rfl:_=aa.agg _)|exact(rfl:_=aa.cu)|exact(rfl:_=aa.bL _)|exact(rfl:_=aa.fn _ _ _)|exact ald|exact z8|exact(rfl:_=aa.nn)|exact(rfl:_=aa.mr _)|exact(rfl:_=aa.im _)|exact(rfl:_=aa.ez _)|exact b8):a=b:=h
theorem akz{α:Type}{a:α}{l t t':List α}(h:l=a::t)(k:t=t'):l=a::t':=by rw[h,k]
theorem akA{α:Type}{l:List α}(h:l=[]:=by exact rfl):l=[]:=h
theorem spine{α:Type}{a b:List α}(h:a=b:=by repeat(first|exact akA|apply akz rfl)):a=b:=h
theorem SV{α:Type}{o:Option α}(h:o=none):o.isNone=true:=by rw[h];rfl
section
variable{C:aO}{f:FuncId}{call:gA}{S:ak}{g:Bool}
variable{d:Nat}{ty:TypeId}{pos:String}{bg:Array Edge}{bH:Option (Nat×Bool)}{v v':aa}
variable{x y z:Operand}{k:IntKind}{a b:Int}{T dw:TypeId}
theorem U(h:un g (S.get C x)=v:=by exact gt):bF C f call S g ⟨some d, .move x,ty,pos,bg,bH⟩=some ⟨[(d,v)],[],[]⟩:=by subst h;rfl
theorem ag(h:un g (S.get C x)=v:=by exact gt):bF C f call S g ⟨some d, .assign x,ty,pos,bg,bH⟩=some ⟨[(d,v)],[],[]⟩:=by subst h;rfl
theorem zh{op:BinOp}{PD PE:aa}{iE sZ nj:Value}(hx:un g (S.get C x)=PD)(hy:un g (S.get C y)=PE)(h1:mB PD=some iE)(h2:mB PE=some sZ)(hb:eA C.P op T x y iE sZ=some nj)(hs:eJ nj=true):bF C f call S g ⟨some d, .binOp op T x y dw,ty,pos,bg,bH⟩=some ⟨[(d, .val nj)],[],[]⟩:=by show ox C _ op T x y (un g (S.get C x)) (un g (S.get C y))=_;rw[hx,hy];simp[ox,h1,h2,hb,hs]
theorem nT{op:BinOp}{nj:Value}(hb:eA C.P op T x y (.int k a) (.int k b)=some nj)(hs:eJ nj=true)(hx:un g (S.get C x)= .val (.int k a))(hy:un g (S.get C y)= .val (.int k b)):bF C f call S g ⟨some d, .binOp op T x y dw,ty,pos,bg,bH⟩=some ⟨[(d, .val nj)],[],[]⟩:=zh hx hy rfl rfl hb hs
theorem dH(hx:un g (S.get C x)= .val (.int k a):=by first|exact rfl|exact b8)(hy:un g (S.get C y)= .val (.int k b):=by first|exact rfl|exact b8):bF C f call S g ⟨some d, .binOp .add T x y dw,ty,pos,bg,bH⟩=some ⟨[(d, .val (.int k (k.wrap (a+b))))],[],[]⟩:=nT ZD rfl hx hy
theorem eB(hx:un g (S.get C x)= .val (.int k a):=by first|exact rfl|exact b8)(hy:un g (S.get C y)= .val (.int k b):=by first|exact rfl|exact b8):bF C f call S g ⟨some d, .binOp .sub T x y dw,ty,pos,bg,bH⟩=some ⟨[(d, .val (.int k (k.wrap (a-b))))],[],[]⟩:=nT ZS rfl hx hy
theorem TP(hx:un g (S.get C x)= .val (.int k a):=by first|exact rfl|exact b8)(hy:un g (S.get C y)= .val (.int k b):=by first|exact rfl|exact b8):bF C f call S g ⟨some d, .binOp .mul T x y dw,ty,pos,bg,bH⟩=some ⟨[(d, .val (.int k (k.wrap (a*b))))],[],[]⟩:=nT ZM rfl hx hy
theorem au(hx:un g (S.get C x)= .val (.int k a):=by first|exact rfl|exact b8)(hy:un g (S.get C y)= .val (.int k b):=by first|exact rfl|exact b8):bF C f call S g ⟨some d, .binOp .eql T x y dw,ty,pos,bg,bH⟩=some ⟨[(d, .val (.bool (a==b)))],[],[]⟩:=nT ZE rfl hx hy
theorem ey(hx:un g (S.get C x)= .val (.int k a):=by first|exact rfl|exact b8)(hy:un g (S.get C y)= .val (.int k b):=by first|exact rfl|exact b8):bF C f call S g ⟨some d, .binOp .neq T x y dw,ty,pos,bg,bH⟩=some ⟨[(d, .val (.bool (a !=b)))],[],[]⟩:=nT ZN rfl hx hy
theorem dB(hx:un g (S.get C x)= .val (.int k a):=by first|exact rfl|exact b8)(hy:un g (S.get C y)= .val (.int k b):=by first|exact rfl|exact b8):bF C f call S g ⟨some d, .binOp .lss T x y dw,ty,pos,bg,bH⟩=some ⟨[(d, .val (.bool (decide (a<b))))],[],[]⟩:=nT ZL rfl hx hy
theorem j0(hx:un g (S.get C x)= .val (.int k a):=by first|exact rfl|exact b8)(hy:un g (S.get C y)= .val (.int k b):=by first|exact rfl|exact b8):bF C f call S g ⟨some d, .binOp .leq T x y dw,ty,pos,bg,bH⟩=some ⟨[(d, .val (.bool (decide (a≤b))))],[],[]⟩:=nT ZK rfl hx hy
theorem jZ(hx:un g (S.get C x)= .val (.int k a):=by first|exact rfl|exact b8)(hy:un g (S.get C y)= .val (.int k b):=by first|exact rfl|exact b8):bF C f call S g ⟨some d, .binOp .gtr T x y dw,ty,pos,bg,bH⟩=some ⟨[(d, .val (.bool (decide (b<a))))],[],[]⟩:=nT ZJ rfl hx hy
theorem gH(hx:un g (S.get C x)= .val (.int k a):=by first|exact rfl|exact b8)(hy:un g (S.get C y)= .val (.int k b):=by first|exact rfl|exact b8):bF C f call S g ⟨some d, .binOp .geq T x y dw,ty,pos,bg,bH⟩=some ⟨[(d, .val (.bool (decide (b≤a))))],[],[]⟩:=nT ZI rfl hx hy
theorem ZG{P:Program}{a b:ByteArray}:eA P .eql T x y (.string a) (.string b)=some (.bool (a.toList==b.toList)):=by simp[eA,eqGuard,binOp,Op.stringOp,dD,bind,Sem.bind,pure]
theorem ZO{P:Program}{a b:ByteArray}:eA P .neq T x y (.string a) (.string b)=some (.bool (a.toList !=b.toList)):=by simp[eA,eqGuard,binOp,Op.stringOp,dD,bind,Sem.bind,pure,bne]
theorem ck{a b:ByteArray}(hx:un g (S.get C x)= .val (.string a):=by first|exact rfl|exact b8)(hy:un g (S.get C y)= .val (.string b):=by first|exact rfl|exact b8):bF C f call S g ⟨some d, .binOp .eql T x y dw,ty,pos,bg,bH⟩=some ⟨[(d, .val (.bool (a.toList==b.toList)))],[],[]⟩:=zh hx hy rfl rfl ZG rfl
theorem Nz{a b:ByteArray}(hx:un g (S.get C x)= .val (.string a):=by first|exact rfl|exact b8)(hy:un g (S.get C y)= .val (.string b):=by first|exact rfl|exact b8):bF C f call S g ⟨some d, .binOp .neq T x y dw,ty,pos,bg,bH⟩=some ⟨[(d, .val (.bool (a.toList !=b.toList)))],[],[]⟩:=zh hx hy rfl rfl ZO rfl
theorem ZF{P:Program}{a b:Bool}(hu:P.underlying T=some .bool):eA P .eql T x y (.bool a) (.bool b)=some (.bool (a==b)):=by have e:eA P .eql T x y (.bool a) (.bool b)=dD P (do pure (.bool (←Op.equal T (.bool a) (.bool b)))):=rfl;rw[e,ic];unfold Op.equal Op.maxDepth;rw[Uw (d:=9999) hu rfl rfl];rfl
theorem ahn{a b:Bool}[hu:eL C T .bool](hx:un g (S.get C x)= .val (.bool a):=by first|exact rfl|exact b8)(hy:un g (S.get C y)= .val (.bool b):=by first|exact rfl|exact b8):bF C f call S g ⟨some d, .binOp .eql T x y dw,ty,pos,bg,bH⟩=some ⟨[(d, .val (.bool (a==b)))],[],[]⟩:=zh hx hy rfl rfl (ZF hu.ul) rfl
theorem mh{op:BinOp}{xs ys:List aa}{vx vy:List Value}{q:Bool}(hb:eA C.P op T x y (.agg ⟨vx⟩) (.agg ⟨vy⟩)=some (.bool q))(hx:un g (S.get C x)= .agg xs:=by first|exact rfl|exact b8)(hy:un g (S.get C y)= .agg ys:=by first|exact rfl|exact b8)(h1:jx xs=some vx:=by exact rfl)(h2:jx ys=some vy:=by exact rfl):bF C f call S g ⟨some d, .binOp op T x y dw,ty,pos,bg,bH⟩=some ⟨[(d, .val (.bool q))],[],[]⟩:=zh hx hy (by simp[mB,h1]) (by simp[mB,h2]) hb rfl
theorem eU{p:Bool}(hx:un g (S.get C x)= .val (.bool p):=by first|exact rfl|exact b8):bF C f call S g ⟨some d, .unOp .not T x,ty,pos,bg,bH⟩=some ⟨[(d, .val (.bool !p))],[],[]⟩:=by show xV C _ .not (un g (S.get C x))=_;rw[hx];rfl
theorem TX{op:UnOp}{iE nj:Value}(hb:Da C.P op iE=some nj)(hs:eJ nj=true)(hx:un g (S.get C x)= .val iE:=by first|exact rfl|exact b8):bF C f call S g ⟨some d, .unOp op T x,ty,pos,bg,bH⟩=some ⟨[(d, .val nj)],[],[]⟩:=by show xV C _ op (un g (S.get C x))=_;rw[hx];simp[hb,hs]
theorem ahl{iE nj:Value}(hb:HK C.P T dw iE=some nj)(hx:un g (S.get C x)= .val iE:=by first|exact rfl|exact b8)(hs:eJ nj=true:=by exact rfl)(hnb:AL C T dw=false:=by first|rfl|decide):bF C f call S g ⟨some d, .convert T dw x,ty,pos,bg,bH⟩=some ⟨[(d, .val nj)],[],[]⟩:=by show xT C _ T dw (un g (S.get C x))=_;rw[hx,abR hnb];simp[hb,hs]
theorem aT{p q r:Bool}(hx:un g (S.get C x)= .val (.bool p):=by first|exact rfl|exact b8)(hy:un (g&&p) (S.get C y)= .val (.bool q):=by first|exact rfl|exact b8)(hz:un (g&& !p) (S.get C z)= .val (.bool r):=by first|exact rfl|exact b8):bF C f call S g ⟨some d, .pick x y z,ty,pos,bg,bH⟩=some ⟨[(d, .val (.bool (if p then q else r)))],[],[]⟩:=by show vh _ (un g (S.get C x)) (un (g&&mH (un g (S.get C x))) (S.get C y)) (un (g&& !mH (un g (S.get C x))) (S.get C z))=_;rw[hx];simp only[mH];rw[hy,hz];rfl
theorem cx{q:Bool}(hx:un g (S.get C x)= .val (.bool true):=by exact rfl)(hy:un (g&&true) (S.get C y)= .val (.bool q):=by first|exact rfl|exact b8):bF C f call S g ⟨some d, .pick x y z,ty,pos,bg,bH⟩=some ⟨[(d, .val (.bool q))],[],[]⟩:=by show vh _ (un g (S.get C x)) (un (g&&mH (un g (S.get C x))) (S.get C y)) (un (g&& !mH (un g (S.get C x))) (S.get C z))=_;rw[hx];simp only[mH];rw[hy];generalize un (g&& !true) (S.get C z)=w;cases w with|val v=>(cases v<;>rfl)|_=>rfl
theorem bX{q:Bool}(hx:un g (S.get C x)= .val (.bool false):=by exact rfl)(hz:un (g&&true) (S.get C z)= .val (.bool q):=by first|exact rfl|exact b8):bF C f call S g ⟨some d, .pick x y z,ty,pos,bg,bH⟩=some ⟨[(d, .val (.bool q))],[],[]⟩:=by show vh _ (un g (S.get C x)) (un (g&&mH (un g (S.get C x))) (S.get C y)) (un (g&& !mH (un g (S.get C x))) (S.get C z))=_;rw[hx];simp only[mH,Bool.not_false];rw[hz];generalize un (g&&false) (S.get C y)=w;cases w with|val v=>(cases v<;>rfl)|_=>rfl
/-! ### Memory that does not change -/
theorem en{bb:Bool}{m:Nat}{cs cs':List aa}[ha:dr C T bb m](hin:(C.eR f).contains d=true:=by exact rfl)(hx:un g (S.get C x)=v:=by exact gt)(hc:oo bb v=some cs:=by exact rfl)(hz:kN cs=cs':=by exact spine)(hi:ek cs'=true:=by exact rfl):bF C f call S g ⟨some d, .box T x,ty,pos,bg,bH⟩=some ⟨[(d, .aq cs')],[],[]⟩:=by show qR C f S _ T (un g (S.get C x))=_;simp only[qR,ha.kY,hx,hc,eX,hin,hz,hi,Bool.and_self,if_true];rfl
theorem ah{m:Nat}{cells cs:List aa}[ha:dr C T false m](hx:un g (S.get C x)= .aq cells:=by first|exact rfl|exact b8)(hm:m=1:=by exact rfl)(hv:cells=v::cs:=by exact rfl):bF C f call S g ⟨some d, .load T x,ty,pos,bg,bH⟩=some ⟨[(d,v)],[],[]⟩:=by show mK C S _ T (un g (S.get C x))=_;subst hm hv;simp[mK,ha.kY,ha.sz,hx,jX]
theorem bp{m:Nat}{cells cs:List aa}[ha:dr C T true m](hx:un g (S.get C x)= .aq cells:=by first|exact rfl|exact b8)(hl:Nat.ble m cells.length=true:=by exact rfl)(hv:cells.take m=cs:=by exact spine):bF C f call S g ⟨some d, .load T x,ty,pos,bg,bH⟩=some ⟨[(d, .agg cs)],[],[]⟩:=by show mK C S _ T (un g (S.get C x))=_;have hl':m≤cells.length:=Nat.le_of_ble_eq_true hl;simp[mK,ha.kY,ha.sz,hx,hl',hv,jX]
theorem aj{i off m:Nat}{bb:Bool}{cells:List aa}[hf:Fd C T i off m bb](hx:un g (S.get C x)= .aq cells:=by first|exact rfl|exact b8)(h0:Nat.blt 0 m=true:=by exact rfl)(hl:Nat.ble off cells.length=true:=by exact rfl)(hz:(C.eR f).contains d=false:=by exact rfl):bF C f call S g ⟨some d, .fieldAddr T x i,ty,pos,bg,bH⟩=some ⟨[(d, .aq (cells.drop off))],[],[]⟩:=by show se C f _ T i (un g (S.get C x))=_;have hl':off≤cells.length:=Nat.le_of_ble_eq_true hl;have x5:0<m:=of_decide_eq_true (mG h0);simp only[se,hf.fd,hx,eX,hz];rw[if_pos ⟨x5,hl'⟩];rfl
theorem aho{i off m:Nat}{bb:Bool}{cells cs:List aa}[hf:Fd C T i off m bb](hx:un g (S.get C x)= .aq cells:=by first|exact rfl|exact b8)(h0:Nat.blt 0 m=true:=by exact rfl)(hl:Nat.ble (off+m) cells.length=true:=by exact rfl)(hz:(C.eR f).contains d=true:=by exact rfl)(hc:(cells.drop off).take m=cs:=by exact spine):bF C f call S g ⟨some d, .fieldAddr T x i,ty,pos,bg,bH⟩=some ⟨[(d, .aq cs)],[],[]⟩:=by show se C f _ T i (un g (S.get C x))=_;have hl':off+m≤cells.length:=Nat.le_of_ble_eq_true hl;have x5:0<m:=of_decide_eq_true (mG h0);simp only[se,hf.fd,hx,eX,hz,if_true];rw[if_pos ⟨x5,by omega⟩,if_pos hl',hc];rfl
theorem aW{e:TypeId}{m:Nat}{bb:Bool}{α:Type}{c:α→List aa}{q:List α}{i:Int}{r:α}(hi:idx q i=some r)[hu:eL C T (.slice e)][hs:dr C e bb m](hx:un g (S.get C x)= .sl (q.map c):=by first|exact rfl|exact b8)(hy:un g (S.get C y)= .val (.int k i):=by first|exact rfl|exact b8)(h0:Nat.blt 0 m=true:=by exact rfl)(hr:(c r).length=m:=by exact rfl):bF C f call S g ⟨some d, .indexAddr T x y,ty,pos,bg,bH⟩=some ⟨[(d, .aq (c r))],[],[]⟩:=by show oy C S _ T (un g (S.get C x)) (e3 (un g (S.get C y)))=_;have x5:0<m:=of_decide_eq_true (mG h0);have h1:=Fe (c:=c) hi;unfold idx at h1;split at h1;·{rename_i hp;simp only[hx,hy,e3,oy,hu.ul,hs.sz,if_pos hp,h1,Option.bind_some];simp[hr,x5]};·cases h1
def o7(s:ByteArray)(i:Int):Option UInt8:=if 0≤i then s[i.toNat]? else none
theorem BU{s:ByteArray}{i:Int}{r:UInt8}(hi:o7 s i=some r)[hu:eL C T .string](hx:un g (S.get C x)= .val (.string s):=by first|exact rfl|exact b8)(hy:un g (S.get C y)= .val (.int k i):=by first|exact rfl|exact b8):bF C f call S g ⟨some d, .index T x y,ty,pos,bg,bH⟩=some ⟨[(d, .val (.int .u8 r.toNat))],[],[]⟩:=by show AW C _ T (un g (S.get C x)) (e3 (un g (S.get C y)))=_;unfold o7 at hi;split at hi;·{rename_i hp;simp only[hx,hy,e3,AW,hu.ul,if_pos hp,hi,Option.bind_some];rfl};·cases hi
section
variable{e:TypeId}{xs:Array Operand}{ts:Array TypeId}{T:TypeId}
theorem cl{α:Type}{c:α→List aa}{q:List α}(hx:un g (S.get C x)= .sl (q.map c):=by first|exact rfl|exact b8)[hu:eL C T (.slice e)]:bF C f call S g ⟨some d, .call ⟨.builtin .len,⟨[x]⟩,⟨[T]⟩⟩,ty,pos,bg,bH⟩=some ⟨[(d, .val (.int .i64 q.length))],[],[]⟩:=by show sg C _ _ ([x].map fun x=>un g (S.get C x))=_;simp[hx,sg,hu.ul,Fu,Fv,vi]
theorem vX{id:Id}{off m m':Nat}(hx:un g (S.get C x)= .rs id off m':=by first|exact rfl|exact b8)(hm:m'=m:=by first|exact List.length_map _|exact rfl)[hu:eL C T (.slice e)]:bF C f call S g ⟨some d, .call ⟨.builtin .len,⟨[x]⟩,⟨[T]⟩⟩,ty,pos,bg,bH⟩=some ⟨[(d, .val (.int .i64 m))],[],[]⟩:=by show sg C _ _ ([x].map fun x=>un g (S.get C x))=_;simp[hx,sg,hu.ul,Fu,Fv,vi,hm]
theorem qf{s:ByteArray}(hx:un g (S.get C x)= .val (.string s):=by first|exact rfl|exact b8)[hu:eL C T .string]:bF C f call S g ⟨some d, .call ⟨.builtin .len,⟨[x]⟩,⟨[T]⟩⟩,ty,pos,bg,bH⟩=some ⟨[(d, .val (.int .i64 s.size))],[],[]⟩:=by show sg C _ _ ([x].map fun x=>un g (S.get C x))=_;simp[hx,sg,hu.ul,Fu,vi]
end
theorem Uz:([]:List (Nat×Operand)).map (fun p=>(p.1,un g (S.get C p.2)))=[]:=rfl
theorem ajh{i:Nat}{l:List (Nat×Operand)}{l':List (Nat×aa)}(hx:un g (S.get C x)=v)(k:l.map (fun p=>(p.1,un g (S.get C p.2)))=l'):((i,x)::l).map (fun p=>(p.1,un g (S.get C p.2)))=(i,v)::l':=by simp[hx,k]
theorem Jy{l:List (Nat×Operand)}{l':List (Nat×aa)}(h:l.map (fun p=>(p.1,un g (S.get C p.2)))=l':=by repeat(first|exact Uz|(apply ajh;exact gt))):l.map (fun p=>(p.1,un g (S.get C p.2)))=l':=h
theorem de{p:List (Nat×Operand)}{fV cs cs0:List aa}{pl:List (Nat×Nat×Bool)}{ps:List (Nat×aa)}[hz:kE C T fV][hp:Pl C T pl](hq:(p.map fun p=>(p.1,un g (S.get C p.2)))=ps:=by exact Jy)(hf:xW pl fV ps=some cs0:=by exact rfl)(hc:cs0=cs:=by exact spine)(iQ:C.uO f d=[]:=by exact rfl):bF C f call S g ⟨some d, .build T ⟨p⟩,ty,pos,bg,bH⟩=some ⟨[(d, .agg cs)],[],[]⟩:=by show ve C f _ T (p.map fun p=>(p.1,un g (S.get C p.2)))=_;rw[hq];simp[ve,hz.fV,hp.pl,hf,hc,G0,iQ,uP]
theorem vW{p:List (Nat×Operand)}{fV Wg cs cs0:List aa}{l:List Nat}{pl:List (Nat×Nat×Bool)}{ps:List (Nat×aa)}[hz:kE C T fV][hp:Pl C T pl](iQ:C.uO f d=l:=by exact rfl)(By:uP l fV=Wg:=by exact rfl)(hq:(p.map fun p=>(p.1,un g (S.get C p.2)))=ps:=by exact Jy)(hf:xW pl Wg ps=some cs0:=by exact rfl)(hc:cs0=cs:=by exact spine):bF C f call S g ⟨some d, .build T ⟨p⟩,ty,pos,bg,bH⟩=some ⟨[(d, .agg cs)],[],[]⟩:=by subst By;show ve C f _ T (p.map fun p=>(p.1,un g (S.get C p.2)))=_;rw[hq];simp[ve,hz.fV,hp.pl,hf,hc,G0,iQ]
theorem FF{dA:Fn}{fs cs:Array Operand}{fa fb:List aa}(ha:(fs.toList.map fun x=>un g (S.get C x))=fa:=by exact spine)(hb:(cs.toList.map fun x=>un g (S.get C x))=fb:=by exact spine):bF C f call S g ⟨some d, .makeFunc dA fs cs,ty,pos,bg,bH⟩=some ⟨[(d, .fn dA fa fb)],[],[]⟩:=by subst ha hb;rfl
theorem c8{vs:List aa}{i:Nat}(hx:un g (S.get C x)= .bL vs:=by first|exact rfl|exact b8)(hi:vs[i]? =some v:=by exact rfl):bF C f call S g ⟨some d, .extract x i,ty,pos,bg,bH⟩=some ⟨[(d,v)],[],[]⟩:=by show AV _ (un g (S.get C x)) i=_;rw[hx];simp[AV,hi]
theorem cR(hx:un g (S.get C x)=v:=by exact gt)(hv:(match v with| .aq _| .mp _ _ _| .fn (.func _) _ _=>true|_=>false)=true:=by exact rfl):bF C f call S g ⟨some d, .nilCheck x,ty,pos,bg,bH⟩=some ⟨[(d,v)],[],[]⟩:=by show AX _ (un g (S.get C x))=_;rw[hx];cases v with|fn dA a b=>(cases dA<;>first|rfl|cases hv)|aq _=>(rfl)|mp _ _ _=>(rfl)|_=>cases hv
theorem agA{P:Program}{ts:Array TypeId}{k:IntKind}{a b:Int}:I9 P ts ty [.int k a, .int k b]=some (.int k (max a b)):=by have e:(if b>a then b else a)=max a b:=by{omega};simp[I9,Builtin.max_,Builtin.max2,dD,List.foldlM,bind,Sem.bind,pure,e]
theorem Nx{k:IntKind}{a b:Int}{ts:Array TypeId}(hx:un g (S.get C x)= .val (.int k a):=by first|exact rfl|exact b8)(hy:un g (S.get C y)= .val (.int k b):=by first|exact rfl|exact b8):bF C f call S g ⟨some d, .call ⟨.builtin .max,⟨[x,y]⟩,ts⟩,ty,pos,bg,bH⟩=some ⟨[(d, .val (.int k (max a b)))],[],[]⟩:=by show(match jx ([x,y].map fun x=>un g (S.get C x))with|some vs=>kS _ (I9 C.P ts ty vs)|none=>none)=_;simp only[List.map_cons,List.map_nil,hx,hy,jx,Option.map_some,agA];rfl
/-! ### Parts of slices and strings -/
def uB(s:ByteArray)(lo hi:Option Int):Option ByteArray:=(bounds (lo.map some) (hi.map some) s.size).map fun p=>s.extract p.1 p.2
theorem PO:(none.map fun y=>e3 (un g (S.get C y)))=(none:Option Int).map some:=rfl
theorem PR{n:Int}(h:un g (S.get C y)= .val (.int k n):=by first|exact rfl|exact b8):((some y).map fun y=>e3 (un g (S.get C y)))=(some n).map some:=by show some (e3 (un g (S.get C y)))=_;rw[h];rfl
theorem xz{α:Type}{c:α→List aa}{q:List α}{m:Nat}(hc:∀x,(c x).length=m):(q.map c).all (·.length==m)=true:=by simp[hc]
theorem Jj{s r:ByteArray}{lo hi:Option Operand}{lo' hi':Option Int}(hr:uB s lo' hi'=some r)[hu:eL C T .string](hx:un g (S.get C x)= .val (.string s):=by first|exact rfl|exact b8)(h1:(lo.map fun y=>e3 (un g (S.get C y)))=lo'.map some:=by first|exact PO|exact PR)(h2:(hi.map fun y=>e3 (un g (S.get C y)))=hi'.map some:=by first|exact PO|exact PR):bF C f call S g ⟨some d, .slice T x lo hi none,ty,pos,bg,bH⟩=some ⟨[(d, .val (.string r))],[],[]⟩:=by show qV C S _ T (un g (S.get C x)) (lo.map fun y=>e3 (un g (S.get C y))) (hi.map fun y=>e3 (un g (S.get C y)))=_;unfold uB at hr;obtain⟨p,hp,rfl⟩:=Option.map_eq_some_iff.1 hr;rw[hx,h1,h2];simp only[qV,hu.ul,hp,Option.bind_some];rfl
end
end Go.Ab
