import Derived.Test.YtbhpblokoecoaaaAbV4
namespace Go.Ab
open Go
def xx(k:IntKind)(a b:Int):Option Int:=if b=0 then none else some (k.wrap (a.tdiv b))
def xy(a b:Int):Option Int:=if b=0 then none else some (a.tmod b)
def ke(k:IntKind)(a b:Int):Int:=k.wrap ((BitVec.ofInt k.bits a&&&BitVec.ofInt k.bits b).toNat:Nat)
def Ds(k:IntKind)(a b:Int):Int:=k.wrap ((BitVec.ofInt k.bits a|||BitVec.ofInt k.bits b).toNat:Nat)
def om(k:IntKind)(a b:Int):Int:=k.wrap ((BitVec.ofInt k.bits a^^^BitVec.ofInt k.bits b).toNat:Nat)
def AY(k:IntKind)(a n:Int):Option Int:=if n<0 then none else some (k.wrap (a*2^(min n.toNat k.bits)))
def AZ(k:IntKind)(a n:Int):Option Int:=if n<0 then none else some (a.fdiv (2^(min n.toNat k.bits)))
section
variable{C:aV}{f:FuncId}{call:gS}{S:an}{g:Bool}
variable{d:Nat}{ty:TypeId}{pos:String}{bq:Array Edge}{bJ:Option (Nat×Bool)}{v v':aa}
variable{x y z:Operand}{k k':IntKind}{a b:Int}{T di:TypeId}
theorem VW{P:Program}{r:Int}(h:xx k a b=some r):eo P .quo T x y (.int k a) (.int k b)=some (.int k r):=by unfold xx at h;split at h;·{cases h};·rename_i h0;obtain rfl:=Option.some.inj h;simp[eo,eqGuard,binOp,Op.intDiv,dz,bind,Sem.bind,pure,h0]
theorem VX{P:Program}{r:Int}(h:xy a b=some r):eo P .rem T x y (.int k a) (.int k b)=some (.int k r):=by unfold xy at h;split at h;·{cases h};·rename_i h0;obtain rfl:=Option.some.inj h;simp[eo,eqGuard,binOp,Op.intDiv,dz,bind,Sem.bind,pure,h0]
theorem Qj{r:Int}(h:xx k a b=some r)(hx:un g (S.get C x)= .val (.int k a):=by first|exact rfl|exact b6)(hy:un g (S.get C y)= .val (.int k b):=by first|exact rfl|exact b6):bD C f call S g ⟨some d, .binOp .quo T x y di,ty,pos,bq,bJ⟩=some ⟨[(d, .val (.int k r))],[],[]⟩:=mY (VW h) rfl hx hy
theorem Qk{r:Int}(h:xy a b=some r)(hx:un g (S.get C x)= .val (.int k a):=by first|exact rfl|exact b6)(hy:un g (S.get C y)= .val (.int k b):=by first|exact rfl|exact b6):bD C f call S g ⟨some d, .binOp .rem T x y di,ty,pos,bq,bJ⟩=some ⟨[(d, .val (.int k r))],[],[]⟩:=mY (VX h) rfl hx hy
theorem zQ(hx:un g (S.get C x)= .val (.int k a):=by first|exact rfl|exact b6)(hy:un g (S.get C y)= .val (.int k b):=by first|exact rfl|exact b6):bD C f call S g ⟨some d, .binOp .and T x y di,ty,pos,bq,bJ⟩=some ⟨[(d, .val (.int k (ke k a b)))],[],[]⟩:=mY (by simp[eo,eqGuard,binOp,Op.intBits,dz,bind,Sem.bind,pure,ke]) rfl hx hy
theorem Qh(hx:un g (S.get C x)= .val (.int k a):=by first|exact rfl|exact b6)(hy:un g (S.get C y)= .val (.int k b):=by first|exact rfl|exact b6):bD C f call S g ⟨some d, .binOp .or T x y di,ty,pos,bq,bJ⟩=some ⟨[(d, .val (.int k (Ds k a b)))],[],[]⟩:=mY (by simp[eo,eqGuard,binOp,Op.intBits,dz,bind,Sem.bind,pure,Ds]) rfl hx hy
theorem Qo(hx:un g (S.get C x)= .val (.int k a):=by first|exact rfl|exact b6)(hy:un g (S.get C y)= .val (.int k b):=by first|exact rfl|exact b6):bD C f call S g ⟨some d, .binOp .xor T x y di,ty,pos,bq,bJ⟩=some ⟨[(d, .val (.int k (om k a b)))],[],[]⟩:=mY (by simp[eo,eqGuard,binOp,Op.intBits,dz,bind,Sem.bind,pure,om]) rfl hx hy
theorem Ql{r:Int}(h:AY k a b=some r)(hx:un g (S.get C x)= .val (.int k a):=by first|exact rfl|exact b6)(hy:un g (S.get C y)= .val (.int k' b):=by first|exact rfl|exact b6):bD C f call S g ⟨some d, .binOp .shl T x y di,ty,pos,bq,bJ⟩=some ⟨[(d, .val (.int k r))],[],[]⟩:=by refine zX hx hy rfl rfl ?_ rfl;unfold AY at h;split at h;·{cases h};·rename_i h0;obtain rfl:=Option.some.inj h;simp[eo,eqGuard,binOp,Op.shift,dz,bind,Sem.bind,pure,h0]
theorem Qm{r:Int}(h:AZ k a b=some r)(hx:un g (S.get C x)= .val (.int k a):=by first|exact rfl|exact b6)(hy:un g (S.get C y)= .val (.int k' b):=by first|exact rfl|exact b6):bD C f call S g ⟨some d, .binOp .shr T x y di,ty,pos,bq,bJ⟩=some ⟨[(d, .val (.int k r))],[],[]⟩:=by refine zX hx hy rfl rfl ?_ rfl;unfold AZ at h;split at h;·{cases h};·rename_i h0;obtain rfl:=Option.some.inj h;simp[eo,eqGuard,binOp,Op.shift,dz,bind,Sem.bind,pure,h0]
theorem Gr(hx:un g (S.get C x)= .val (.int k a):=by first|exact rfl|exact b6):bD C f call S g ⟨some d, .unOp .neg T x,ty,pos,bq,bJ⟩=some ⟨[(d, .val (.int k (k.wrap (0-a))))],[],[]⟩:=Qn (by simp[Bm,Op.unary,Op.intArith,dz,pure]) rfl hx
theorem Qb(hx:un g (S.get C x)= .val (.int k a):=by first|exact rfl|exact b6)(hs:k.signed=true:=by rfl):bD C f call S g ⟨some d, .unOp .xor T x,ty,pos,bq,bJ⟩=some ⟨[(d, .val (.int k (om k (-1) a)))],[],[]⟩:=Qn (by simp[Bm,Op.unary,Op.intBits,dz,pure,om,hs]) rfl hx
theorem Qc{dT:TypeDesc}[h1:eC C T dT][h2:eC C di (.int k')](hx:un g (S.get C x)= .val (.int k a):=by first|exact rfl|exact b6):bD C f call S g ⟨some d, .convert T di x,ty,pos,bq,bJ⟩=some ⟨[(d, .val (.int k' (k'.wrap a)))],[],[]⟩:=by refine acA ?_ hx rfl (by unfold yO;rw[h2.ul];cases C.P.underlying T<;>rfl);unfold Fe convert;rw[iX,uZ h1.ul,Option.bind_some,iX,uZ h2.ul,Option.bind_some];cases dT<;>rfl
end
end Go.Ab
