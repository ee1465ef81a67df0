import Derived.Test.YtbbhbdlljfffdaaGreatDoorAbV4
import Derived.Lib.Strings
import Derived.Lib.Bytealg
import Derived.Lib.Index
import Derived.Lib.IndexMore
import Derived.Lib.Join
open BitVec renaming ofInt→GE
open Option renaming map_some→Hb,bind_some→Hc
open Option.some renaming inj→GT,injEq→Ha
set_option linter.all false
namespace Go.Ab
open Go
def AP(k:IntKind)(a b:Int):Option Int:=if b=0 then none else some (k.wrap (a.tdiv b))
def D0(a b:Int):Option Int:=if b=0 then none else some (a.tmod b)
def ry(k:IntKind)(a b:Int):Int:=k.wrap ((GE k.bits a&&&GE k.bits b).toNat:Nat)
def G3(k:IntKind)(a b:Int):Int:=k.wrap ((GE k.bits a|||GE k.bits b).toNat:Nat)
def q3(k:IntKind)(a b:Int):Int:=k.wrap ((GE k.bits a^^^GE k.bits b).toNat:Nat)
def yq(k:IntKind)(a n:Int):Option Int:=if n<0 then none else some (k.wrap (a*2^(min n.toNat k.bits)))
def Ec(k:IntKind)(a n:Int):Option Int:=if n<0 then none else some (a.fdiv (2^(min n.toNat k.bits)))
section
variable{C:aL}{f:FuncId}{call:gd}{S:ah}{g:Bool}
variable{d:Nat}{ty:TypeId}{pos:String}{aZ:Array Edge}{bx:Option (Nat×Bool)}{v v':U}
variable{x y z:Operand}{k k':IntKind}{a b:Int}{T aQ:TypeId}
theorem Y9{P:Program}{r:Int}(h:AP k a b=some r):eD P .quo T x y (.int k a) (.int k b)=some (.int k r):=by unfold AP at h;split at h;·{cases h};·rename_i h0;obtain rfl:=GT h;simp[eD,eqGuard,binOp,Op.intDiv,cS,bind,Sem.bind,pure,h0]
theorem Za{P:Program}{r:Int}(h:D0 a b=some r):eD P .rem T x y (.int k a) (.int k b)=some (.int k r):=by unfold D0 at h;split at h;·{cases h};·rename_i h0;obtain rfl:=GT h;simp[eD,eqGuard,binOp,Op.intDiv,cS,bind,Sem.bind,pure,h0]
theorem SH{r:Int}(h:AP k a b=some r)(hx:un g (S.get C x)= .val (.int k a):=by first|exact rfl|exact bU)(hy:un g (S.get C y)= .val (.int k b):=by first|exact rfl|exact bU):bw C f call S g ⟨some d, .binOp .quo T x y aQ,ty,pos,aZ,bx⟩=some ⟨[(d, .val (.int k r))],[],[]⟩:=nW (Y9 h) rfl hx hy
theorem ahg{r:Int}(h:D0 a b=some r)(hx:un g (S.get C x)= .val (.int k a):=by first|exact rfl|exact bU)(hy:un g (S.get C y)= .val (.int k b):=by first|exact rfl|exact bU):bw C f call S g ⟨some d, .binOp .rem T x y aQ,ty,pos,aZ,bx⟩=some ⟨[(d, .val (.int k r))],[],[]⟩:=nW (Za h) rfl hx hy
theorem Lj(hx:un g (S.get C x)= .val (.int k a):=by first|exact rfl|exact bU)(hy:un g (S.get C y)= .val (.int k b):=by first|exact rfl|exact bU):bw C f call S g ⟨some d, .binOp .and T x y aQ,ty,pos,aZ,bx⟩=some ⟨[(d, .val (.int k (ry k a b)))],[],[]⟩:=nW (by simp[eD,eqGuard,binOp,Op.intBits,cS,bind,Sem.bind,pure,ry]) rfl hx hy
theorem SF(hx:un g (S.get C x)= .val (.int k a):=by first|exact rfl|exact bU)(hy:un g (S.get C y)= .val (.int k b):=by first|exact rfl|exact bU):bw C f call S g ⟨some d, .binOp .or T x y aQ,ty,pos,aZ,bx⟩=some ⟨[(d, .val (.int k (G3 k a b)))],[],[]⟩:=nW (by simp[eD,eqGuard,binOp,Op.intBits,cS,bind,Sem.bind,pure,G3]) rfl hx hy
theorem ahj(hx:un g (S.get C x)= .val (.int k a):=by first|exact rfl|exact bU)(hy:un g (S.get C y)= .val (.int k b):=by first|exact rfl|exact bU):bw C f call S g ⟨some d, .binOp .xor T x y aQ,ty,pos,aZ,bx⟩=some ⟨[(d, .val (.int k (q3 k a b)))],[],[]⟩:=nW (by simp[eD,eqGuard,binOp,Op.intBits,cS,bind,Sem.bind,pure,q3]) rfl hx hy
theorem Lp{r:Int}(h:yq k a b=some r)(hx:un g (S.get C x)= .val (.int k a):=by first|exact rfl|exact bU)(hy:un g (S.get C y)= .val (.int k' b):=by first|exact rfl|exact bU):bw C f call S g ⟨some d, .binOp .shl T x y aQ,ty,pos,aZ,bx⟩=some ⟨[(d, .val (.int k r))],[],[]⟩:=by refine nX hx hy rfl rfl ?_ rfl;unfold yq at h;split at h;·{cases h};·rename_i h0;obtain rfl:=GT h;simp[eD,eqGuard,binOp,Op.shift,cS,bind,Sem.bind,pure,h0]
theorem ahh{r:Int}(h:Ec k a b=some r)(hx:un g (S.get C x)= .val (.int k a):=by first|exact rfl|exact bU)(hy:un g (S.get C y)= .val (.int k' b):=by first|exact rfl|exact bU):bw C f call S g ⟨some d, .binOp .shr T x y aQ,ty,pos,aZ,bx⟩=some ⟨[(d, .val (.int k r))],[],[]⟩:=by refine nX hx hy rfl rfl ?_ rfl;unfold Ec at h;split at h;·{cases h};·rename_i h0;obtain rfl:=GT h;simp[eD,eqGuard,binOp,Op.shift,cS,bind,Sem.bind,pure,h0]
theorem GV(hx:un g (S.get C x)= .val (.int k a):=by first|exact rfl|exact bU):bw C f call S g ⟨some d, .unOp .neg T x,ty,pos,aZ,bx⟩=some ⟨[(d, .val (.int k (k.wrap (0-a))))],[],[]⟩:=SI (by simp[Bp,Op.unary,Op.intArith,cS,pure]) rfl hx
theorem Sw(hx:un g (S.get C x)= .val (.int k a):=by first|exact rfl|exact bU)(hs:k.signed=true:=by rfl):bw C f call S g ⟨some d, .unOp .xor T x,ty,pos,aZ,bx⟩=some ⟨[(d, .val (.int k (q3 k (-1) a)))],[],[]⟩:=SI (by simp[Bp,Op.unary,Op.intBits,cS,pure,q3,hs]) rfl hx
theorem qN{dT:TypeDesc}[h1:c7 C T dT][h2:c7 C aQ (.int k')](hx:un g (S.get C x)= .val (.int k a):=by first|exact rfl|exact bU):bw C f call S g ⟨some d, .convert T aQ x,ty,pos,aZ,bx⟩=some ⟨[(d, .val (.int k' (k'.wrap a)))],[],[]⟩:=by refine ag9 ?_ hx rfl (by unfold uk;rw[h2.ul];cases C.P.underlying T<;>rfl);unfold Fs convert;rw[gJ,nY h1.ul,Hc,gJ,nY h2.ul,Hc];cases dT<;>rfl
end
end Go.Ab
namespace Go.Ab
open Go
class jo where m:Int
theorem afL{w w':World}(h:RowKit.Below w.heap.size w w')(F:Nat→Prop):Kept w w' F:=⟨h.size,fun b hb _=>h.block b hb,h.os,h.output,fun a ha=>h.frozen ha,uh fun b hb=>h.block b hb⟩
theorem US{w:World}{I:Nat→Prop}{β:Id→Option Loc}:∀{us vs:List Value}{fp:List Nat},av w I β fp vs (us.map .val)→vs=us∧fp=[]|[],vs,fp,h=>by{have:=h.length;simp only[List.map_nil,List.length_nil,List.length_eq_zero_iff]at this;subst this;generalize hx:(U.agg ([].map U.val))=x at h;cases h with|nil=>(exact⟨rfl,rfl⟩)|_=>cases hx}|u::us,vs,fp,h=>by obtain⟨f1,f2,v',vs',e1,e,k1,k2⟩:=av.cons_inv h;subst e;obtain⟨dG,iK⟩:=US k2;have kF:=k1.gE;have:f1=[]:=by{generalize hx:U.val u=x at k1;cases k1<;>first|rfl|cases hx};subst this dG iK;simp_all
section
variable{C:aL}{f:FuncId}{fn:Func}{c:Code}
theorem Ei(hf:C.P.funcs[f]? =some fn)(hb:fn.body=some c)(hl:C.cA f=[]){us:List Value}{v:Value}(hv:eC v=true)(h:∀w cR,(∀g cs,C.cD g=some cs→R w cR b8 [] (.pointer (some ⟨g,0,none⟩)) (.aA cs))→Calls C.P f ⟨us⟩ w fun e w'=>e= .returned v∧RowKit.Below w.heap.size w w'):qf C f (us.map .val) (.val v,[]):=by intro w cR fp vs hr hnd hI gi hg;obtain⟨rfl,rfl⟩:=US hr;refine .inl ⟨fn,c,hf,hb,(h w cR hg).mono fun e w'⟨he,hk⟩=>⟨v,he,⟨afL hk _,fun _=>False,[], ?_,List.nodup_nil,fun b hb=>(by cases hb),fun b hb=>hb.elim⟩⟩⟩;rw[hl];exact .cons (f1:=[]) (f2:=[]) (.val hv) .nil
theorem Qt{w:World}{I:Nat→Prop}{g:Nat}{v:Value}{cs:List U}(h:R w I b8 [] (.pointer (some ⟨g,0,none⟩)) (.aA (.val v::cs))):w.cell? ⟨g,0,none⟩=some v:=by obtain⟨_,b,p,vs,hv,_,hc,hr⟩:=h.tT;obtain⟨f1,f2,v',vs',e1,e,k1,k2⟩:=av.cons_inv hr;subst e;have kF:=k1.gE;simp only[Value.pointer.injEq,Ha,Addr.mk.injEq]at hv;obtain⟨rfl,rfl,_⟩:=hv;have:=hc 0 v' rfl;rw[Nat.zero_add]at this;rw[this,kF.2]
end
/-! ### As plain data -/
def w8(s p:ByteArray):Option Bool:=some (Lib.hasPrefix s.data.toList p.data.toList)
def C9(s:ByteArray)(c:Int):Option Int:=some (Lib.indexByte s.data.toList c.toNat.toUInt8)
def Da(s p:ByteArray):Option Int:=if s.size<4294967281 then some (Lib.index s.data.toList p.data.toList)else none
def B0(s p:ByteArray):Option Bool:=if s.size<4294967281 then some (Lib.contains s.data.toList p.data.toList)else none
def zh(s:ByteArray):Option ByteArray:=if s.size≤281474976710656 then some s else none
/-! ### As abstract values -/
def akn:Rows→Option (List ByteArray)|[]=>some []|[.val (.string s)]::l=>(akn l).map (s::·)|_=>none
def w7:List U→Option (U×List U)|[.val (.string s), .val (.string p)]=>(w8 s p).map fun r=>(.val (.bool r),[])|_=>none
def xF:List U→Option (U×List U)|[.val (.string s), .val (.int .u8 c)]=>(C9 s c).map fun r=>(.val (.int .i64 r),[])|_=>none
def xE:List U→Option (U×List U)|[.val (.string s), .val (.string p)]=>(Da s p).map fun r=>(.val (.int .i64 r),[])|_=>none
def wG:List U→Option (U×List U)|[.val (.string s), .val (.string p)]=>(B0 s p).map fun r=>(.val (.bool r),[])|_=>none
def wC:List U→Option (U×List U)|[.val (.string s)]=>(zh s).map fun r=>(.val (.string r),[])|_=>none
theorem adE{s p:ByteArray}{r:Bool}(h:w8 s p=some r):w7 [.val (.string s), .val (.string p)]=some (.val (.bool r),[]):=by simp[w7,h]
theorem afx{s:ByteArray}{c:Int}{r:Int}(h:C9 s c=some r):xF [.val (.string s), .val (.int .u8 c)]=some (.val (.int .i64 r),[]):=by simp[xF,h]
theorem afw{s p:ByteArray}{r:Int}(h:Da s p=some r):xE [.val (.string s), .val (.string p)]=some (.val (.int .i64 r),[]):=by simp[xE,h]
theorem aas{s p:ByteArray}{r:Bool}(h:B0 s p=some r):wG [.val (.string s), .val (.string p)]=some (.val (.bool r),[]):=by simp[wG,h]
theorem aae{s:ByteArray}{r:ByteArray}(h:zh s=some r):wC [.val (.string s)]=some (.val (.string r),[]):=by simp[wC,h]
section
variable{C:aL}{f:FuncId}{fn:Func}{c:Code}{args:List U}{r:U×List U}
theorem adF(hf:C.P.funcs[f]? =some fn)(hb:fn.body=some c)(hl:C.cA f=[])(H:∀(s p:ByteArray)(w:World),Calls C.P f #[.string s, .string p] w fun e w'=>e= .returned (.bool (Lib.hasPrefix s.data.toList p.data.toList))∧w'=w){g:List U→Option (U×List U)}(hg:g=w7)(h:g args=some r):qf C f args r:=by subst hg;unfold w7 at h;split at h;·{rename_i s p;simp only[w8,Hb,Ha]at h;subst h;exact Ei (us:=[.string s, .string p]) hf hb hl rfl fun w _ _=>(H s p w).mono fun e w'⟨h1,h2⟩=>⟨h1,h2▸RowKit.Below.refl _ _⟩};·cases h
theorem afy(hf:C.P.funcs[f]? =some fn)(hb:fn.body=some c)(hl:C.cA f=[])(H:∀(s:ByteArray)(c:Int)(w:World),Calls C.P f #[.string s, .int .u8 c] w fun e w'=>e= .returned (.int .i64 (Lib.indexByte s.data.toList c.toNat.toUInt8))∧w'=w){g:List U→Option (U×List U)}(hg:g=xF)(h:g args=some r):qf C f args r:=by subst hg;unfold xF at h;split at h;·{rename_i s p;simp only[C9,Hb,Ha]at h;subst h;exact Ei (us:=[.string s, .int .u8 p]) hf hb hl rfl fun w _ _=>(H s p w).mono fun e w'⟨h1,h2⟩=>⟨h1,h2▸RowKit.Below.refl _ _⟩};·cases h
theorem afz{k:Nat}{m:Int}{cs:List U}(hf:C.P.funcs[f]? =some fn)(hb:fn.body=some c)(hl:C.cA f=[])(uJ:C.cD k=some (.val (.int .i64 m)::cs))(H:∀(s p:ByteArray)(m:Int)(w:World),s.size<4294967281→w.cell? ⟨k,0,none⟩=some (.int .i64 m)→Calls C.P f #[.string s, .string p] w fun e w'=>e= .returned (.int .i64 (Lib.index s.data.toList p.data.toList))∧w'=w){g:List U→Option (U×List U)}(hg:g=xE)(h:g args=some r):qf C f args r:=by subst hg;unfold xE at h;split at h;·{rename_i s p;unfold Da at h;split at h;·{rename_i hs;simp only[Hb,Ha]at h;subst h;exact Ei (us:=[.string s, .string p]) hf hb hl rfl fun w _ hg=>(H s p m w hs (Qt (hg _ _ uJ))).mono fun e w'⟨h1,h2⟩=>⟨h1,h2▸RowKit.Below.refl _ _⟩};·cases h};·cases h
theorem aau{k:Nat}{m:Int}{cs:List U}(hf:C.P.funcs[f]? =some fn)(hb:fn.body=some c)(hl:C.cA f=[])(uJ:C.cD k=some (.val (.int .i64 m)::cs))(H:∀(s p:ByteArray)(m:Int)(w:World),s.size<4294967281→w.cell? ⟨k,0,none⟩=some (.int .i64 m)→Calls C.P f #[.string s, .string p] w fun e w'=>e= .returned (.bool (Lib.contains s.data.toList p.data.toList))∧w'=w){g:List U→Option (U×List U)}(hg:g=wG)(h:g args=some r):qf C f args r:=by subst hg;unfold wG at h;split at h;·{rename_i s p;unfold B0 at h;split at h;·{rename_i hs;simp only[Hb,Ha]at h;subst h;exact Ei (us:=[.string s, .string p]) hf hb hl rfl fun w _ hg=>(H s p m w hs (Qt (hg _ _ uJ))).mono fun e w'⟨h1,h2⟩=>⟨h1,h2▸RowKit.Below.refl _ _⟩};·cases h};·cases h
theorem aaf(hf:C.P.funcs[f]? =some fn)(hb:fn.body=some c)(hl:C.cA f=[])(H:∀(s:ByteArray)(w:World),s.size≤281474976710656→Calls C.P f #[.string s] w fun e w'=>e= .returned (.string s)∧RowKit.Below w.heap.size w w'){g:List U→Option (U×List U)}(hg:g=wC)(h:g args=some r):qf C f args r:=by subst hg;unfold wC at h;split at h;·{rename_i s;unfold zh at h;split at h;·{rename_i hs;simp only[Hb,Ha]at h;subst h;exact Ei (us:=[.string s]) hf hb hl rfl fun w _ _=>H s w hs};·cases h};·cases h
end
end Go.Ab
namespace Go.Ab
open Go
def dA.isNil:dA→Bool| .nil=>true|_=>false
def dA.Al:dA→Int→Option Bool| .nil,_=>some false| .code m,n=>some (m==n)| .other,_=>none
def OY(P:Program)(t:TypeId):Bool:=match P.info? t with|some i=>i.comparable|none=>false
class EE(C:aL)(t:TypeId):Prop where cb:OY C.P t=true
theorem EE.ex{C:aL}{t:TypeId}(h:EE C t):∃i,C.P.info? t=some i∧i.comparable=true:=by have:=h.cb;unfold OY at this;split at this;·{exact⟨_,‹_›,this⟩};·cases this
section
variable{C:aL}{f:FuncId}{call:gd}{S:ah}{g:Bool}
variable{d:Nat}{ty:TypeId}{pos:String}{aZ:Array Edge}{bx:Option (Nat×Bool)}{v v':U}
variable{x y z:Operand}{k k':IntKind}{a b:Int}{T aQ t:TypeId}{e:dA}{ms:Array (String×TypeId)}
theorem aa8{tx:TypeId}{vx:Value}(hu:C.P.underlying T=some (.interface ms)):cS C.P (Op.equal T (.iface tx vx) .nilIface)=some false:=by unfold Op.equal Op.maxDepth;have:∀d,cS C.P (Op.equalIn (d+1) T (.iface tx vx) .nilIface)=some false:=fun d=>by{simp[Op.equalIn,gJ,nY hu,oQ]};exact this 9999
theorem aba(hu:C.P.underlying T=some (.interface ms)):cS C.P (Op.equal T .nilIface .nilIface)=some true:=by unfold Op.equal Op.maxDepth;have:∀d,cS C.P (Op.equalIn (d+1) T .nilIface .nilIface)=some true:=fun d=>by{simp[Op.equalIn,gJ,nY hu,oQ]};exact this 9999
theorem aa9{tx:TypeId}{vx:Value}(hu:C.P.underlying T=some (.interface ms)):cS C.P (Op.equal T .nilIface (.iface tx vx))=some false:=by unfold Op.equal Op.maxDepth;have:∀d,cS C.P (Op.equalIn (d+1) T .nilIface (.iface tx vx))=some false:=fun d=>by{simp[Op.equalIn,gJ,nY hu,oQ]};exact this 9999
theorem aa7{m n:Int}(hu:C.P.underlying T=some (.interface ms))(ht:C.P.underlying t=some (.int .i64))(hc:∃i,C.P.info? t=some i∧i.comparable=true):cS C.P (Op.equal T (.iface t (.int .i64 m)) (.iface t (.int .i64 n)))=some (m==n):=by obtain⟨i,hi,hc⟩:=hc;unfold Op.equal Op.maxDepth;have:∀d,cS C.P (Op.equalIn (d+1+1) T (.iface t (.int .i64 m)) (.iface t (.int .i64 n)))=some (m==n):=fun d=>by{have Kw:cS C.P (typeInfo t)=some i:=by{unfold typeInfo;rw[gJ];show(some C.P).bind _=_;simp[hi,oQ]};simp[Op.equalIn,gJ,nY hu,nY ht,oQ,Kw,hc]};exact this 9998
def Ay:Operand:= .const .nilIface
theorem Fe{e9 iu:Value}{r:Bool}(hk:(∃tx vx,e9= .iface tx vx)∨(∃tx vx,iu= .iface tx vx)∨y= .const .nilIface)(hb:e9= .nilIface∨∃tx vx,e9= .iface tx vx)(hb':iu= .nilIface∨∃tx vx,iu= .iface tx vx)(h:cS C.P (Op.equal T e9 iu)=some r):eD C.P .eql T x y e9 iu=some (.bool r)∧eD C.P .neq T x y e9 iu=some (.bool (!r)):=by have hg:∀op,cS C.P (eqGuard op T x y e9 iu)=some ():=fun op=>by{rcases hb with rfl|⟨_,_,rfl⟩<;>rcases hb' with rfl|⟨_,_,rfl⟩;·{rcases hk with⟨_,_,h⟩|⟨_,_,h⟩|rfl;·{cases h};·{cases h};·cases op<;>cases x<;>simp[eqGuard,oQ,cS,pure]};·{cases op<;>rfl};·{cases op<;>rfl};·cases op<;>rfl};have Gp:binOp .eql T e9 iu=(do pure (.bool (←Op.equal T e9 iu)):Sem Value):=by{rcases hb with rfl|⟨_,_,rfl⟩<;>rcases hb' with rfl|⟨_,_,rfl⟩<;>rfl};have CM:binOp .neq T e9 iu=(do pure (.bool (!(←Op.equal T e9 iu))):Sem Value):=by{rcases hb with rfl|⟨_,_,rfl⟩<;>rcases hb' with rfl|⟨_,_,rfl⟩<;>rfl};constructor;·{unfold eD;rw[gJ,hg,Hc,Gp,gJ,h];rfl};·unfold eD;rw[gJ,hg,Hc,CM,gJ,h];rfl
theorem Lm{op:BinOp}{r:Bool}[hu:c7 C T (.interface ms)](hx:un g (S.get C x)=gN t e:=by first|exact rfl|exact bU)(hy:y=Ay:=by exact rfl)(hop:(op= .eql∧r=e.isNil)∨(op= .neq∧r= !e.isNil):=by first|exact .inl ⟨rfl,rfl⟩|exact .inr ⟨rfl,rfl⟩):bw C f call S g ⟨some d, .binOp op T x y aQ,ty,pos,aZ,bx⟩=some ⟨[(d, .val (.bool r))],[],[]⟩:=by subst hy;have hy:un g (S.get C Ay)= .val .nilIface:=by{cases g<;>rfl};cases e with|nil=>(have:=Fe (C:=C) (T:=T) (x:=x) (y:=Ay) (e9:= .nilIface) (iu:= .nilIface) (.inr (.inr rfl)) (.inl rfl) (.inl rfl) (aba hu.ul);rcases hop with⟨rfl,rfl⟩|⟨rfl,rfl⟩;·{exact nX hx hy rfl rfl this.1 rfl};·exact nX hx hy rfl rfl this.2 rfl)|code n=>(have:=Fe (C:=C) (T:=T) (x:=x) (y:=Ay) (e9:= .iface t (.int .i64 n)) (iu:= .nilIface) (.inl ⟨_,_,rfl⟩) (.inr ⟨_,_,rfl⟩) (.inl rfl) (aa8 hu.ul);rcases hop with⟨rfl,rfl⟩|⟨rfl,rfl⟩;·{exact nX hx hy rfl rfl this.1 rfl};·exact nX hx hy rfl rfl this.2 rfl)|other=>show mP C _ op T x Ay (un g (S.get C x)) (un g (S.get C Ay))=_;rw[hx,hy];rcases hop with⟨rfl,rfl⟩|⟨rfl,rfl⟩<;>simp[mP,gN,lX,hu.ul,Le,dA.isNil,ret,put]
theorem Dz{op:BinOp}{n:Int}{eH r:Bool}(hc:e.Al n=some eH)[hu:c7 C T (.interface ms)][ht:c7 C t (.int .i64)][hb:EE C t](hx:un g (S.get C x)=gN t e:=by first|exact rfl|exact bU)(hy:un g (S.get C y)=gN t (.code n):=by first|exact rfl|exact bU)(hop:(op= .eql∧r=eH)∨(op= .neq∧r= !eH):=by first|exact .inl ⟨rfl,rfl⟩|exact .inr ⟨rfl,rfl⟩):bw C f call S g ⟨some d, .binOp op T x y aQ,ty,pos,aZ,bx⟩=some ⟨[(d, .val (.bool r))],[],[]⟩:=by cases e with|nil=>(obtain rfl:false=eH:=GT hc;have:=Fe (C:=C) (T:=T) (x:=x) (y:=y) (e9:= .nilIface) (iu:= .iface t (.int .i64 n)) (.inr (.inl ⟨_,_,rfl⟩)) (.inl rfl) (.inr ⟨_,_,rfl⟩) (aa9 hu.ul);rcases hop with⟨rfl,rfl⟩|⟨rfl,rfl⟩;·{exact nX hx hy rfl rfl this.1 rfl};·exact nX hx hy rfl rfl this.2 rfl)|code m=>(obtain rfl:(m==n)=eH:=GT hc;have:=Fe (C:=C) (T:=T) (x:=x) (y:=y) (e9:= .iface t (.int .i64 m)) (iu:= .iface t (.int .i64 n)) (.inl ⟨_,_,rfl⟩) (.inr ⟨_,_,rfl⟩) (.inr ⟨_,_,rfl⟩) (aa7 hu.ul ht.ul hb.ex);rcases hop with⟨rfl,rfl⟩|⟨rfl,rfl⟩;·{exact nX hx hy rfl rfl this.1 rfl};·exact nX hx hy rfl rfl this.2 rfl)|other=>cases hc
theorem mA{n:Int}[hu:c7 C t (.int .i64)](hx:un g (S.get C x)= .val (.int .i64 n):=by first|exact rfl|exact bU):bw C f call S g ⟨some d, .makeInterface t x,ty,pos,aZ,bx⟩=some ⟨[(d,gN t (.code n))],[],[]⟩:=by show uw C _ t (un g (S.get C x))=_;rw[hx];simp[uw,hu.ul,eC,ret,put,gN]
theorem GS{e':TypeId}{cs:List U}[hu:c7 C t (.pointer e')](hx:un g (S.get C x)= .aA cs:=by first|exact rfl|exact bU):bw C f call S g ⟨some d, .makeInterface t x,ty,pos,aZ,bx⟩=some ⟨[(d, .nn)],[],[]⟩:=by show uw C _ t (un g (S.get C x))=_;rw[hx];simp[uw,hu.ul,ret,put]
def pe(s:ByteArray):List Int:=s.data.toList.map fun b=>(b.toNat:Int)
theorem ag8{s:ByteArray}{dT:TypeDesc}{el:TypeId}[h1:c7 C T dT][h2:c7 C aQ (.slice el)][h3:c7 C el (.int .u8)](hx:un g (S.get C x)= .val (.string s):=by first|exact rfl|exact bU):bw C f call S g ⟨some d, .convert T aQ x,ty,pos,aZ,bx⟩=some ⟨[(d, .sl ((pe s).map fun n=>[.val (.int .u8 n)]))],[],[]⟩:=by show sS C _ T aQ (un g (S.get C x))=_;have hb:uk C T aQ=true:=by{simp[uk,h1.ul,h2.ul,h3.ul]};rw[hx];simp[sS,hb,Fy,ret,put,BR,pe,List.map_map,Function.comp]
def pJ(s:ByteArray):U:= .val (.string s)
theorem SA{α:Type}{c:α→U}{m:Nat}{q:List α}[ha:cM C T true m](hx:un g (S.get C x)= .aA (q.map c):=by exact rfl)(hl:q.length=m:=by exact rfl):bw C f call S g ⟨some d, .load T x,ty,pos,aZ,bx⟩=some ⟨[(d, .agg (q.map c))],[],[]⟩:=by show lD C S _ T (un g (S.get C x))=_;have ht:List.take q.length (q.map c)=q.map c:=by{rw[←List.length_map c];exact List.take_length};simp[lD,ha.jN,ha.sz,hx,←hl,jd,ht]
theorem Sy{α:Type}{c:α→U}{el:TypeId}{len:Nat}{i:Int}{r:α}{q:List α}(hi:idx q i=some r)[hu:c7 C T (.array len el)][hs:cM C el false 1](hx:un g (S.get C x)= .agg (q.map c):=by first|exact rfl|exact bU)(hc:∀x,(c x).cell=true:=by exact fun _=>rfl)(hy:un g (S.get C y)= .val (.int k i):=by first|exact rfl|exact bU)(hl:q.length=len:=by exact rfl):bw C f call S g ⟨some d, .index T x y,ty,pos,aZ,bx⟩=some ⟨[(d,c r)],[],[]⟩:=by show ux C _ T (un g (S.get C x)) (eB (un g (S.get C y)))=_;have hb:=Ag hi;have hn:=gH hi;subst hl;have hlt:i.toNat<q.length:=by{omega};have e1:((q.map c).drop (i.toNat*1)).take 1=[c r]:=by{have:q[i.toNat]=r:=by{rw[List.getElem?_eq_getElem hlt]at hn;simpa using hn};rw[Nat.mul_one,List.drop_eq_getElem_cons (by simpa using hlt)];simp[this]};simp only[hx,hy,eB,ux,hu.ul,hs.sz,hs.jN];rw[AC ⟨hb.1,hb.2,by simp;omega⟩,e1];simp[jd,put]
end
end Go.Ab
