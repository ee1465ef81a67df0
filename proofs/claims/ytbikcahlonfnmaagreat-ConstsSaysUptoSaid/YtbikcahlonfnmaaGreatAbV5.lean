import Derived.Test.YtbikcahlonfnmaaGreatAbV4
namespace Go.Ab
open Go
def v9(k:IntKind)(a b:Int):Option Int:=if b=0 then none else some (k.wrap (a.tdiv b))
def we(a b:Int):Option Int:=if b=0 then none else some (a.tmod b)
def kZ(k:IntKind)(a b:Int):Int:=k.wrap ((BitVec.ofInt k.bits a&&&BitVec.ofInt k.bits b).toNat:Nat)
def FJ(k:IntKind)(a b:Int):Int:=k.wrap ((BitVec.ofInt k.bits a|||BitVec.ofInt k.bits b).toNat:Nat)
def pn(k:IntKind)(a b:Int):Int:=k.wrap ((BitVec.ofInt k.bits a^^^BitVec.ofInt k.bits b).toNat:Nat)
def zQ(k:IntKind)(a n:Int):Option Int:=if n<0 then none else some (k.wrap (a*2^(min n.toNat k.bits)))
def zR(k:IntKind)(a n:Int):Option Int:=if n<0 then none else some (a.fdiv (2^(min n.toNat k.bits)))
section
variable{C:aO}{f:FuncId}{call:gA}{S:ak}{g:Bool}
variable{d:Nat}{ty:TypeId}{pos:String}{bg:Array Edge}{bH:Option (Nat×Bool)}{v v':aa}
variable{x y z:Operand}{k k':IntKind}{a b:Int}{T dw:TypeId}
theorem ZQ{P:Program}{r:Int}(h:v9 k a b=some r):eA P .quo T x y (.int k a) (.int k b)=some (.int k r):=by unfold v9 at h;split at h;·{cases h};·rename_i h0;obtain rfl:=Option.some.inj h;simp[eA,eqGuard,binOp,Op.intDiv,dD,bind,Sem.bind,pure,h0]
theorem ZR{P:Program}{r:Int}(h:we a b=some r):eA P .rem T x y (.int k a) (.int k b)=some (.int k r):=by unfold we at h;split at h;·{cases h};·rename_i h0;obtain rfl:=Option.some.inj h;simp[eA,eqGuard,binOp,Op.intDiv,dD,bind,Sem.bind,pure,h0]
theorem TT{r:Int}(h:v9 k a b=some r)(hx:un g (S.get C x)= .val (.int k a):=by first|exact rfl|exact b8)(hy:un g (S.get C y)= .val (.int k b):=by first|exact rfl|exact b8):bF C f call S g ⟨some d, .binOp .quo T x y dw,ty,pos,bg,bH⟩=some ⟨[(d, .val (.int k r))],[],[]⟩:=nT (ZQ h) rfl hx hy
theorem TU{r:Int}(h:we a b=some r)(hx:un g (S.get C x)= .val (.int k a):=by first|exact rfl|exact b8)(hy:un g (S.get C y)= .val (.int k b):=by first|exact rfl|exact b8):bF C f call S g ⟨some d, .binOp .rem T x y dw,ty,pos,bg,bH⟩=some ⟨[(d, .val (.int k r))],[],[]⟩:=nT (ZR h) rfl hx hy
theorem BS(hx:un g (S.get C x)= .val (.int k a):=by first|exact rfl|exact b8)(hy:un g (S.get C y)= .val (.int k b):=by first|exact rfl|exact b8):bF C f call S g ⟨some d, .binOp .and T x y dw,ty,pos,bg,bH⟩=some ⟨[(d, .val (.int k (kZ k a b)))],[],[]⟩:=nT (by simp[eA,eqGuard,binOp,Op.intBits,dD,bind,Sem.bind,pure,kZ]) rfl hx hy
theorem TR(hx:un g (S.get C x)= .val (.int k a):=by first|exact rfl|exact b8)(hy:un g (S.get C y)= .val (.int k b):=by first|exact rfl|exact b8):bF C f call S g ⟨some d, .binOp .or T x y dw,ty,pos,bg,bH⟩=some ⟨[(d, .val (.int k (FJ k a b)))],[],[]⟩:=nT (by simp[eA,eqGuard,binOp,Op.intBits,dD,bind,Sem.bind,pure,FJ]) rfl hx hy
theorem TY(hx:un g (S.get C x)= .val (.int k a):=by first|exact rfl|exact b8)(hy:un g (S.get C y)= .val (.int k b):=by first|exact rfl|exact b8):bF C f call S g ⟨some d, .binOp .xor T x y dw,ty,pos,bg,bH⟩=some ⟨[(d, .val (.int k (pn k a b)))],[],[]⟩:=nT (by simp[eA,eqGuard,binOp,Op.intBits,dD,bind,Sem.bind,pure,pn]) rfl hx hy
theorem TV{r:Int}(h:zQ k a b=some r)(hx:un g (S.get C x)= .val (.int k a):=by first|exact rfl|exact b8)(hy:un g (S.get C y)= .val (.int k' b):=by first|exact rfl|exact b8):bF C f call S g ⟨some d, .binOp .shl T x y dw,ty,pos,bg,bH⟩=some ⟨[(d, .val (.int k r))],[],[]⟩:=by refine zh hx hy rfl rfl ?_ rfl;unfold zQ at h;split at h;·{cases h};·rename_i h0;obtain rfl:=Option.some.inj h;simp[eA,eqGuard,binOp,Op.shift,dD,bind,Sem.bind,pure,h0]
theorem TW{r:Int}(h:zR k a b=some r)(hx:un g (S.get C x)= .val (.int k a):=by first|exact rfl|exact b8)(hy:un g (S.get C y)= .val (.int k' b):=by first|exact rfl|exact b8):bF C f call S g ⟨some d, .binOp .shr T x y dw,ty,pos,bg,bH⟩=some ⟨[(d, .val (.int k r))],[],[]⟩:=by refine zh hx hy rfl rfl ?_ rfl;unfold zR at h;split at h;·{cases h};·rename_i h0;obtain rfl:=Option.some.inj h;simp[eA,eqGuard,binOp,Op.shift,dD,bind,Sem.bind,pure,h0]
theorem ze(hx:un g (S.get C x)= .val (.int k a):=by first|exact rfl|exact b8):bF C f call S g ⟨some d, .unOp .neg T x,ty,pos,bg,bH⟩=some ⟨[(d, .val (.int k (k.wrap (0-a))))],[],[]⟩:=TX (by simp[Da,Op.unary,Op.intArith,dD,pure]) rfl hx
theorem TK(hx:un g (S.get C x)= .val (.int k a):=by first|exact rfl|exact b8)(hs:k.signed=true:=by rfl):bF C f call S g ⟨some d, .unOp .xor T x,ty,pos,bg,bH⟩=some ⟨[(d, .val (.int k (pn k (-1) a)))],[],[]⟩:=TX (by simp[Da,Op.unary,Op.intBits,dD,pure,pn,hs]) rfl hx
theorem TL{dT:TypeDesc}[h1:eL C T dT][h2:eL C dw (.int k')](hx:un g (S.get C x)= .val (.int k a):=by first|exact rfl|exact b8):bF C f call S g ⟨some d, .convert T dw x,ty,pos,bg,bH⟩=some ⟨[(d, .val (.int k' (k'.wrap a)))],[],[]⟩:=by refine ahl ?_ hx rfl (by unfold AL;rw[h2.ul];cases C.P.underlying T<;>rfl);unfold HK convert;rw[ic,uj h1.ul,Option.bind_some,ic,uj h2.ul,Option.bind_some];cases dT<;>rfl
end
end Go.Ab
