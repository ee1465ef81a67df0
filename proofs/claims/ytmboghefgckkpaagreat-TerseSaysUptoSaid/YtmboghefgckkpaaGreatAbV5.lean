import Derived.Test.YtmboghefgckkpaaGreatAbV4
namespace Go.Ab
open Go
def Ac(k:IntKind)(a b:Int):Option Int:=if b=0 then none else some (k.wrap (a.tdiv b))
def Ad(a b:Int):Option Int:=if b=0 then none else some (a.tmod b)
def mb(k:IntKind)(a b:Int):Int:=k.wrap ((BitVec.ofInt k.bits a&&&BitVec.ofInt k.bits b).toNat:Nat)
def GL(k:IntKind)(a b:Int):Int:=k.wrap ((BitVec.ofInt k.bits a|||BitVec.ofInt k.bits b).toNat:Nat)
def qE(k:IntKind)(a b:Int):Int:=k.wrap ((BitVec.ofInt k.bits a^^^BitVec.ofInt k.bits b).toNat:Nat)
def DH(k:IntKind)(a n:Int):Option Int:=if n<0 then none else some (k.wrap (a*2^(min n.toNat k.bits)))
def DI(k:IntKind)(a n:Int):Option Int:=if n<0 then none else some (a.fdiv (2^(min n.toNat k.bits)))
section
variable{C:aU}{f:FuncId}{call:hM}{S:an}{g:Bool}
variable{d:Nat}{ty:TypeId}{pos:String}{bn:Array Edge}{bP:Option (Nat×Bool)}{v v':aa}
variable{x y z:Operand}{k k':IntKind}{a b:Int}{T dY:TypeId}
theorem abO{P:Program}{r:Int}(h:Ac k a b=some r):eZ P .quo T x y (.int k a) (.int k b)=some (.int k r):=by unfold Ac at h;split at h;·{cases h};·rename_i h0;obtain rfl:=Option.some.inj h;simp[eZ,eqGuard,binOp,Op.intDiv,dV,bind,Sem.bind,pure,h0]
theorem abP{P:Program}{r:Int}(h:Ad a b=some r):eZ P .rem T x y (.int k a) (.int k b)=some (.int k r):=by unfold Ad at h;split at h;·{cases h};·rename_i h0;obtain rfl:=Option.some.inj h;simp[eZ,eqGuard,binOp,Op.intDiv,dV,bind,Sem.bind,pure,h0]
theorem Vl{r:Int}(h:Ac k a b=some r)(hx:un g (S.get C x)= .val (.int k a):=by first|exact rfl|exact cm)(hy:un g (S.get C y)= .val (.int k b):=by first|exact rfl|exact cm):bN C f call S g ⟨some d, .binOp .quo T x y dY,ty,pos,bn,bP⟩=some ⟨[(d, .val (.int k r))],[],[]⟩:=o5 (abO h) rfl hx hy
theorem Vm{r:Int}(h:Ad a b=some r)(hx:un g (S.get C x)= .val (.int k a):=by first|exact rfl|exact cm)(hy:un g (S.get C y)= .val (.int k b):=by first|exact rfl|exact cm):bN C f call S g ⟨some d, .binOp .rem T x y dY,ty,pos,bn,bP⟩=some ⟨[(d, .val (.int k r))],[],[]⟩:=o5 (abP h) rfl hx hy
theorem Cs(hx:un g (S.get C x)= .val (.int k a):=by first|exact rfl|exact cm)(hy:un g (S.get C y)= .val (.int k b):=by first|exact rfl|exact cm):bN C f call S g ⟨some d, .binOp .and T x y dY,ty,pos,bn,bP⟩=some ⟨[(d, .val (.int k (mb k a b)))],[],[]⟩:=o5 (by simp[eZ,eqGuard,binOp,Op.intBits,dV,bind,Sem.bind,pure,mb]) rfl hx hy
theorem Vj(hx:un g (S.get C x)= .val (.int k a):=by first|exact rfl|exact cm)(hy:un g (S.get C y)= .val (.int k b):=by first|exact rfl|exact cm):bN C f call S g ⟨some d, .binOp .or T x y dY,ty,pos,bn,bP⟩=some ⟨[(d, .val (.int k (GL k a b)))],[],[]⟩:=o5 (by simp[eZ,eqGuard,binOp,Op.intBits,dV,bind,Sem.bind,pure,GL]) rfl hx hy
theorem Vq(hx:un g (S.get C x)= .val (.int k a):=by first|exact rfl|exact cm)(hy:un g (S.get C y)= .val (.int k b):=by first|exact rfl|exact cm):bN C f call S g ⟨some d, .binOp .xor T x y dY,ty,pos,bn,bP⟩=some ⟨[(d, .val (.int k (qE k a b)))],[],[]⟩:=o5 (by simp[eZ,eqGuard,binOp,Op.intBits,dV,bind,Sem.bind,pure,qE]) rfl hx hy
theorem Vn{r:Int}(h:DH k a b=some r)(hx:un g (S.get C x)= .val (.int k a):=by first|exact rfl|exact cm)(hy:un g (S.get C y)= .val (.int k' b):=by first|exact rfl|exact cm):bN C f call S g ⟨some d, .binOp .shl T x y dY,ty,pos,bn,bP⟩=some ⟨[(d, .val (.int k r))],[],[]⟩:=by refine Cy hx hy rfl rfl ?_ rfl;unfold DH at h;split at h;·{cases h};·rename_i h0;obtain rfl:=Option.some.inj h;simp[eZ,eqGuard,binOp,Op.shift,dV,bind,Sem.bind,pure,h0]
theorem Vo{r:Int}(h:DI k a b=some r)(hx:un g (S.get C x)= .val (.int k a):=by first|exact rfl|exact cm)(hy:un g (S.get C y)= .val (.int k' b):=by first|exact rfl|exact cm):bN C f call S g ⟨some d, .binOp .shr T x y dY,ty,pos,bn,bP⟩=some ⟨[(d, .val (.int k r))],[],[]⟩:=by refine Cy hx hy rfl rfl ?_ rfl;unfold DI at h;split at h;·{cases h};·rename_i h0;obtain rfl:=Option.some.inj h;simp[eZ,eqGuard,binOp,Op.shift,dV,bind,Sem.bind,pure,h0]
theorem Kt(hx:un g (S.get C x)= .val (.int k a):=by first|exact rfl|exact cm):bN C f call S g ⟨some d, .unOp .neg T x,ty,pos,bn,bP⟩=some ⟨[(d, .val (.int k (k.wrap (0-a))))],[],[]⟩:=Vp (by simp[D9,Op.unary,Op.intArith,dV,pure]) rfl hx
theorem Vb(hx:un g (S.get C x)= .val (.int k a):=by first|exact rfl|exact cm)(hs:k.signed=true:=by rfl):bN C f call S g ⟨some d, .unOp .xor T x,ty,pos,bn,bP⟩=some ⟨[(d, .val (.int k (qE k (-1) a)))],[],[]⟩:=Vp (by simp[D9,Op.unary,Op.intBits,dV,pure,qE,hs]) rfl hx
theorem Vc{dT:TypeDesc}[h1:ff C T dT][h2:ff C dY (.int k')](hx:un g (S.get C x)= .val (.int k a):=by first|exact rfl|exact cm):bN C f call S g ⟨some d, .convert T dY x,ty,pos,bn,bP⟩=some ⟨[(d, .val (.int k' (k'.wrap a)))],[],[]⟩:=by refine ajO ?_ hx rfl (by unfold Bp;rw[h2.ul];cases C.P.underlying T<;>rfl);unfold I5 convert;rw[jQ,vN h1.ul,Option.bind_some,jQ,vN h2.ul,Option.bind_some];cases dT<;>rfl
end
end Go.Ab
