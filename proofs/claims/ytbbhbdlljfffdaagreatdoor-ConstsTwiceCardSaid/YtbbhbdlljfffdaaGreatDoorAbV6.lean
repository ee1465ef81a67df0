import Derived.Test.YtbbhbdlljfffdaaGreatDoorAbV4
import Derived.Lib.Strings
import Derived.Lib.Bytealg
import Derived.Lib.Index
import Derived.Lib.IndexMore
import Derived.Lib.Join
open BitVec renaming ofInt→GE
open Option renaming map_some→Hb,bind_some→Hc
open Option.some renaming inj→GT,injEq→Ha
set_option linter.all false
namespace Go.Ab
open Go
def tE(k:IntKind)(a b:Int):Option Int:=if b=0 then none else some (k.wrap (a.tdiv b))
def vS(a b:Int):Option Int:=if b=0 then none else some (a.tmod b)
def lQ(k:IntKind)(a b:Int):Int:=k.wrap ((GE k.bits a&&&GE k.bits b).toNat:Nat)
def vL(k:IntKind)(a b:Int):Int:=k.wrap ((GE k.bits a|||GE k.bits b).toNat:Nat)
def lF(k:IntKind)(a b:Int):Int:=k.wrap ((GE k.bits a^^^GE k.bits b).toNat:Nat)
def ru(k:IntKind)(a n:Int):Option Int:=if n<0 then none else some (k.wrap (a*2^(min n.toNat k.bits)))
def wh(k:IntKind)(a n:Int):Option Int:=if n<0 then none else some (a.fdiv (2^(min n.toNat k.bits)))
section
variable{C:av}{f:FuncId}{call:eT}{S:ah}{g:Bool}
variable{d:Nat}{ty:TypeId}{pos:String}{aD:Array Edge}{aS:Option (Nat×Bool)}{v v':U}
variable{x y z:Operand}{k k':IntKind}{a b:Int}{T bP:TypeId}
theorem RP{P:Program}{r:Int}(h:tE k a b=some r):cV P .quo T x y (.int k a) (.int k b)=some (.int k r):=by unfold tE at h;split at h;·{cases h};·rename_i h0;obtain rfl:=GT h;simp[cV,eqGuard,binOp,Op.intDiv,bY,bind,Sem.bind,pure,h0]
theorem RQ{P:Program}{r:Int}(h:vS a b=some r):cV P .rem T x y (.int k a) (.int k b)=some (.int k r):=by unfold vS at h;split at h;·{cases h};·rename_i h0;obtain rfl:=GT h;simp[cV,eqGuard,binOp,Op.intDiv,bY,bind,Sem.bind,pure,h0]
theorem L1{r:Int}(h:tE k a b=some r)(hx:un g (S.get C x)= .val (.int k a):=by first|exact rfl|exact bz)(hy:un g (S.get C y)= .val (.int k b):=by first|exact rfl|exact bz):aR C f call S g ⟨some d, .binOp .quo T x y bP,ty,pos,aD,aS⟩=some ⟨[(d, .val (.int k r))],[],[]⟩:=kP (RP h) rfl hx hy
theorem Zo{r:Int}(h:vS a b=some r)(hx:un g (S.get C x)= .val (.int k a):=by first|exact rfl|exact bz)(hy:un g (S.get C y)= .val (.int k b):=by first|exact rfl|exact bz):aR C f call S g ⟨some d, .binOp .rem T x y bP,ty,pos,aD,aS⟩=some ⟨[(d, .val (.int k r))],[],[]⟩:=kP (RQ h) rfl hx hy
theorem FQ(hx:un g (S.get C x)= .val (.int k a):=by first|exact rfl|exact bz)(hy:un g (S.get C y)= .val (.int k b):=by first|exact rfl|exact bz):aR C f call S g ⟨some d, .binOp .and T x y bP,ty,pos,aD,aS⟩=some ⟨[(d, .val (.int k (lQ k a b)))],[],[]⟩:=kP (by simp[cV,eqGuard,binOp,Op.intBits,bY,bind,Sem.bind,pure,lQ]) rfl hx hy
theorem L0(hx:un g (S.get C x)= .val (.int k a):=by first|exact rfl|exact bz)(hy:un g (S.get C y)= .val (.int k b):=by first|exact rfl|exact bz):aR C f call S g ⟨some d, .binOp .or T x y bP,ty,pos,aD,aS⟩=some ⟨[(d, .val (.int k (vL k a b)))],[],[]⟩:=kP (by simp[cV,eqGuard,binOp,Op.intBits,bY,bind,Sem.bind,pure,vL]) rfl hx hy
theorem Zr(hx:un g (S.get C x)= .val (.int k a):=by first|exact rfl|exact bz)(hy:un g (S.get C y)= .val (.int k b):=by first|exact rfl|exact bz):aR C f call S g ⟨some d, .binOp .xor T x y bP,ty,pos,aD,aS⟩=some ⟨[(d, .val (.int k (lF k a b)))],[],[]⟩:=kP (by simp[cV,eqGuard,binOp,Op.intBits,bY,bind,Sem.bind,pure,lF]) rfl hx hy
theorem FX{r:Int}(h:ru k a b=some r)(hx:un g (S.get C x)= .val (.int k a):=by first|exact rfl|exact bz)(hy:un g (S.get C y)= .val (.int k' b):=by first|exact rfl|exact bz):aR C f call S g ⟨some d, .binOp .shl T x y bP,ty,pos,aD,aS⟩=some ⟨[(d, .val (.int k r))],[],[]⟩:=by refine j9 hx hy rfl rfl ?_ rfl;unfold ru at h;split at h;·{cases h};·rename_i h0;obtain rfl:=GT h;simp[cV,eqGuard,binOp,Op.shift,bY,bind,Sem.bind,pure,h0]
theorem Zp{r:Int}(h:wh k a b=some r)(hx:un g (S.get C x)= .val (.int k a):=by first|exact rfl|exact bz)(hy:un g (S.get C y)= .val (.int k' b):=by first|exact rfl|exact bz):aR C f call S g ⟨some d, .binOp .shr T x y bP,ty,pos,aD,aS⟩=some ⟨[(d, .val (.int k r))],[],[]⟩:=by refine j9 hx hy rfl rfl ?_ rfl;unfold wh at h;split at h;·{cases h};·rename_i h0;obtain rfl:=GT h;simp[cV,eqGuard,binOp,Op.shift,bY,bind,Sem.bind,pure,h0]
theorem za(hx:un g (S.get C x)= .val (.int k a):=by first|exact rfl|exact bz):aR C f call S g ⟨some d, .unOp .neg T x,ty,pos,aD,aS⟩=some ⟨[(d, .val (.int k (k.wrap (0-a))))],[],[]⟩:=L2 (by simp[wI,Op.unary,Op.intArith,bY,pure]) rfl hx
theorem LS(hx:un g (S.get C x)= .val (.int k a):=by first|exact rfl|exact bz)(hs:k.signed=true:=by rfl):aR C f call S g ⟨some d, .unOp .xor T x,ty,pos,aD,aS⟩=some ⟨[(d, .val (.int k (lF k (-1) a)))],[],[]⟩:=L2 (by simp[wI,Op.unary,Op.intBits,bY,pure,lF,hs]) rfl hx
theorem nu{dT:TypeDesc}[h1:cy C T dT][h2:cy C bP (.int k')](hx:un g (S.get C x)= .val (.int k a):=by first|exact rfl|exact bz):aR C f call S g ⟨some d, .convert T bP x,ty,pos,aD,aS⟩=some ⟨[(d, .val (.int k' (k'.wrap a)))],[],[]⟩:=by refine Zk ?_ hx rfl (by unfold qf;rw[h2.ul];cases C.P.underlying T<;>rfl);unfold AQ convert;rw[eZ,kQ h1.ul,Hc,eZ,kQ h2.ul,Hc];cases dT<;>rfl
end
end Go.Ab
namespace Go.Ab
open Go
class iM where m:Int
theorem X2{w w':World}(h:RowKit.Below w.heap.size w w')(F:Nat→Prop):Kept w w' F:=⟨h.size,fun b hb _=>h.block b hb,h.os,h.output,fun a ha=>h.frozen ha,qe fun b hb=>h.block b hb⟩
theorem NR{w:World}{I:Nat→Prop}{β:Id→Option Loc}:∀{us vs:List Value}{fp:List Nat},ak w I β fp vs (us.map .val)→vs=us∧fp=[]|[],vs,fp,h=>by{have:=h.length;simp only[List.map_nil,List.length_nil,List.length_eq_zero_iff]at this;subst this;generalize hx:(U.agg ([].map U.val))=x at h;cases h with|nil=>(exact⟨rfl,rfl⟩)|_=>cases hx}|u::us,vs,fp,h=>by obtain⟨f1,f2,v',vs',e1,e,k1,k2⟩:=ak.cons_inv h;subst e;obtain⟨cD,eX⟩:=NR k2;have iB:=k1.e3;have:f1=[]:=by{generalize hx:U.val u=x at k1;cases k1<;>first|rfl|cases hx};subst this cD eX;simp_all
section
variable{C:av}{f:FuncId}{fn:Func}{c:Code}
theorem zI(hf:C.P.funcs[f]? =some fn)(hb:fn.body=some c)(hl:C.bR f=[]){us:List Value}{v:Value}(hv:dc v=true)(h:∀w bZ,(∀g cs,C.bM g=some cs→R w bZ aX [] (.pointer (some ⟨g,0,none⟩)) (.ay cs))→Calls C.P f ⟨us⟩ w fun e w'=>e= .returned v∧RowKit.Below w.heap.size w w'):mK C f (us.map .val) (.val v,[]):=by intro w bZ fp vs hr hnd hI ff hg;obtain⟨rfl,rfl⟩:=NR hr;refine .inl ⟨fn,c,hf,hb,(h w bZ hg).mono fun e w'⟨he,hk⟩=>⟨v,he,⟨X2 hk _,fun _=>False,[], ?_,List.nodup_nil,fun b hb=>(by cases hb),fun b hb=>hb.elim⟩⟩⟩;rw[hl];exact .cons (f1:=[]) (f2:=[]) (.val hv) .nil
theorem J5{w:World}{I:Nat→Prop}{g:Nat}{v:Value}{cs:List U}(h:R w I aX [] (.pointer (some ⟨g,0,none⟩)) (.ay (.val v::cs))):w.cell? ⟨g,0,none⟩=some v:=by obtain⟨_,b,p,vs,hv,_,hc,hr⟩:=h.pW;obtain⟨f1,f2,v',vs',e1,e,k1,k2⟩:=ak.cons_inv hr;subst e;have iB:=k1.e3;simp only[Value.pointer.injEq,Ha,Addr.mk.injEq]at hv;obtain⟨rfl,rfl,_⟩:=hv;have:=hc 0 v' rfl;rw[Nat.zero_add]at this;rw[this,iB.2]
end
/-! ### As plain data -/
def sH(s p:ByteArray):Option Bool:=some (Lib.hasPrefix s.data.toList p.data.toList)
def yG(s:ByteArray)(c:Int):Option Int:=some (Lib.indexByte s.data.toList c.toNat.toUInt8)
def yH(s p:ByteArray):Option Int:=if s.size<4294967281 then some (Lib.index s.data.toList p.data.toList)else none
def xq(s p:ByteArray):Option Bool:=if s.size<4294967281 then some (Lib.contains s.data.toList p.data.toList)else none
def uC(s:ByteArray):Option ByteArray:=if s.size≤281474976710656 then some s else none
/-! ### As abstract values -/
def acu:Rows→Option (List ByteArray)|[]=>some []|[.val (.string s)]::l=>(acu l).map (s::·)|_=>none
def sG:List U→Option (U×List U)|[.val (.string s), .val (.string p)]=>(sH s p).map fun r=>(.val (.bool r),[])|_=>none
def s7:List U→Option (U×List U)|[.val (.string s), .val (.int .u8 c)]=>(yG s c).map fun r=>(.val (.int .i64 r),[])|_=>none
def s6:List U→Option (U×List U)|[.val (.string s), .val (.string p)]=>(yH s p).map fun r=>(.val (.int .i64 r),[])|_=>none
def se:List U→Option (U×List U)|[.val (.string s), .val (.string p)]=>(xq s p).map fun r=>(.val (.bool r),[])|_=>none
def r5:List U→Option (U×List U)|[.val (.string s)]=>(uC s).map fun r=>(.val (.string r),[])|_=>none
theorem V4{s p:ByteArray}{r:Bool}(h:sH s p=some r):sG [.val (.string s), .val (.string p)]=some (.val (.bool r),[]):=by simp[sG,h]
theorem XR{s:ByteArray}{c:Int}{r:Int}(h:yG s c=some r):s7 [.val (.string s), .val (.int .u8 c)]=some (.val (.int .i64 r),[]):=by simp[s7,h]
theorem XQ{s p:ByteArray}{r:Int}(h:yH s p=some r):s6 [.val (.string s), .val (.string p)]=some (.val (.int .i64 r),[]):=by simp[s6,h]
theorem S1{s p:ByteArray}{r:Bool}(h:xq s p=some r):se [.val (.string s), .val (.string p)]=some (.val (.bool r),[]):=by simp[se,h]
theorem SP{s:ByteArray}{r:ByteArray}(h:uC s=some r):r5 [.val (.string s)]=some (.val (.string r),[]):=by simp[r5,h]
section
variable{C:av}{f:FuncId}{fn:Func}{c:Code}{args:List U}{r:U×List U}
theorem V5(hf:C.P.funcs[f]? =some fn)(hb:fn.body=some c)(hl:C.bR f=[])(H:∀(s p:ByteArray)(w:World),Calls C.P f #[.string s, .string p] w fun e w'=>e= .returned (.bool (Lib.hasPrefix s.data.toList p.data.toList))∧w'=w){g:List U→Option (U×List U)}(hg:g=sG)(h:g args=some r):mK C f args r:=by subst hg;unfold sG at h;split at h;·{rename_i s p;simp only[sH,Hb,Ha]at h;subst h;exact zI (us:=[.string s, .string p]) hf hb hl rfl fun w _ _=>(H s p w).mono fun e w'⟨h1,h2⟩=>⟨h1,h2▸RowKit.Below.refl _ _⟩};·cases h
theorem XS(hf:C.P.funcs[f]? =some fn)(hb:fn.body=some c)(hl:C.bR f=[])(H:∀(s:ByteArray)(c:Int)(w:World),Calls C.P f #[.string s, .int .u8 c] w fun e w'=>e= .returned (.int .i64 (Lib.indexByte s.data.toList c.toNat.toUInt8))∧w'=w){g:List U→Option (U×List U)}(hg:g=s7)(h:g args=some r):mK C f args r:=by subst hg;unfold s7 at h;split at h;·{rename_i s p;simp only[yG,Hb,Ha]at h;subst h;exact zI (us:=[.string s, .int .u8 p]) hf hb hl rfl fun w _ _=>(H s p w).mono fun e w'⟨h1,h2⟩=>⟨h1,h2▸RowKit.Below.refl _ _⟩};·cases h
theorem XT{k:Nat}{m:Int}{cs:List U}(hf:C.P.funcs[f]? =some fn)(hb:fn.body=some c)(hl:C.bR f=[])(sL:C.bM k=some (.val (.int .i64 m)::cs))(H:∀(s p:ByteArray)(m:Int)(w:World),s.size<4294967281→w.cell? ⟨k,0,none⟩=some (.int .i64 m)→Calls C.P f #[.string s, .string p] w fun e w'=>e= .returned (.int .i64 (Lib.index s.data.toList p.data.toList))∧w'=w){g:List U→Option (U×List U)}(hg:g=s6)(h:g args=some r):mK C f args r:=by subst hg;unfold s6 at h;split at h;·{rename_i s p;unfold yH at h;split at h;·{rename_i hs;simp only[Hb,Ha]at h;subst h;exact zI (us:=[.string s, .string p]) hf hb hl rfl fun w _ hg=>(H s p m w hs (J5 (hg _ _ sL))).mono fun e w'⟨h1,h2⟩=>⟨h1,h2▸RowKit.Below.refl _ _⟩};·cases h};·cases h
theorem S3{k:Nat}{m:Int}{cs:List U}(hf:C.P.funcs[f]? =some fn)(hb:fn.body=some c)(hl:C.bR f=[])(sL:C.bM k=some (.val (.int .i64 m)::cs))(H:∀(s p:ByteArray)(m:Int)(w:World),s.size<4294967281→w.cell? ⟨k,0,none⟩=some (.int .i64 m)→Calls C.P f #[.string s, .string p] w fun e w'=>e= .returned (.bool (Lib.contains s.data.toList p.data.toList))∧w'=w){g:List U→Option (U×List U)}(hg:g=se)(h:g args=some r):mK C f args r:=by subst hg;unfold se at h;split at h;·{rename_i s p;unfold xq at h;split at h;·{rename_i hs;simp only[Hb,Ha]at h;subst h;exact zI (us:=[.string s, .string p]) hf hb hl rfl fun w _ hg=>(H s p m w hs (J5 (hg _ _ sL))).mono fun e w'⟨h1,h2⟩=>⟨h1,h2▸RowKit.Below.refl _ _⟩};·cases h};·cases h
theorem SQ(hf:C.P.funcs[f]? =some fn)(hb:fn.body=some c)(hl:C.bR f=[])(H:∀(s:ByteArray)(w:World),s.size≤281474976710656→Calls C.P f #[.string s] w fun e w'=>e= .returned (.string s)∧RowKit.Below w.heap.size w w'){g:List U→Option (U×List U)}(hg:g=r5)(h:g args=some r):mK C f args r:=by subst hg;unfold r5 at h;split at h;·{rename_i s;unfold uC at h;split at h;·{rename_i hs;simp only[Hb,Ha]at h;subst h;exact zI (us:=[.string s]) hf hb hl rfl fun w _ _=>H s w hs};·cases h};·cases h
end
end Go.Ab
namespace Go.Ab
open Go
def cB.isNil:cB→Bool| .nil=>true|_=>false
def cB.vq:cB→Int→Option Bool| .nil,_=>some false| .code m,n=>some (m==n)| .other,_=>none
def IV(P:Program)(t:TypeId):Bool:=match P.info? t with|some i=>i.comparable|none=>false
class zZ(C:av)(t:TypeId):Prop where cb:IV C.P t=true
theorem zZ.ex{C:av}{t:TypeId}(h:zZ C t):∃i,C.P.info? t=some i∧i.comparable=true:=by have:=h.cb;unfold IV at this;split at this;·{exact⟨_,‹_›,this⟩};·cases this
section
variable{C:av}{f:FuncId}{call:eT}{S:ah}{g:Bool}
variable{d:Nat}{ty:TypeId}{pos:String}{aD:Array Edge}{aS:Option (Nat×Bool)}{v v':U}
variable{x y z:Operand}{k k':IntKind}{a b:Int}{T bP t:TypeId}{e:cB}{ms:Array (String×TypeId)}
theorem TF{tx:TypeId}{vx:Value}(hu:C.P.underlying T=some (.interface ms)):bY C.P (Op.equal T (.iface tx vx) .nilIface)=some false:=by unfold Op.equal Op.maxDepth;have:∀d,bY C.P (Op.equalIn (d+1) T (.iface tx vx) .nilIface)=some false:=fun d=>by{simp[Op.equalIn,eZ,kQ hu,lC]};exact this 9999
theorem TH(hu:C.P.underlying T=some (.interface ms)):bY C.P (Op.equal T .nilIface .nilIface)=some true:=by unfold Op.equal Op.maxDepth;have:∀d,bY C.P (Op.equalIn (d+1) T .nilIface .nilIface)=some true:=fun d=>by{simp[Op.equalIn,eZ,kQ hu,lC]};exact this 9999
theorem TG{tx:TypeId}{vx:Value}(hu:C.P.underlying T=some (.interface ms)):bY C.P (Op.equal T .nilIface (.iface tx vx))=some false:=by unfold Op.equal Op.maxDepth;have:∀d,bY C.P (Op.equalIn (d+1) T .nilIface (.iface tx vx))=some false:=fun d=>by{simp[Op.equalIn,eZ,kQ hu,lC]};exact this 9999
theorem TE{m n:Int}(hu:C.P.underlying T=some (.interface ms))(ht:C.P.underlying t=some (.int .i64))(hc:∃i,C.P.info? t=some i∧i.comparable=true):bY C.P (Op.equal T (.iface t (.int .i64 m)) (.iface t (.int .i64 n)))=some (m==n):=by obtain⟨i,hi,hc⟩:=hc;unfold Op.equal Op.maxDepth;have:∀d,bY C.P (Op.equalIn (d+1+1) T (.iface t (.int .i64 m)) (.iface t (.int .i64 n)))=some (m==n):=fun d=>by{have E7:bY C.P (typeInfo t)=some i:=by{unfold typeInfo;rw[eZ];show(some C.P).bind _=_;simp[hi,lC]};simp[Op.equalIn,eZ,kQ hu,kQ ht,lC,E7,hc]};exact this 9998
def vD:Operand:= .const .nilIface
theorem AB{dL fN:Value}{r:Bool}(hk:(∃tx vx,dL= .iface tx vx)∨(∃tx vx,fN= .iface tx vx)∨y= .const .nilIface)(hb:dL= .nilIface∨∃tx vx,dL= .iface tx vx)(hb':fN= .nilIface∨∃tx vx,fN= .iface tx vx)(h:bY C.P (Op.equal T dL fN)=some r):cV C.P .eql T x y dL fN=some (.bool r)∧cV C.P .neq T x y dL fN=some (.bool (!r)):=by have hg:∀op,bY C.P (eqGuard op T x y dL fN)=some ():=fun op=>by{rcases hb with rfl|⟨_,_,rfl⟩<;>rcases hb' with rfl|⟨_,_,rfl⟩;·{rcases hk with⟨_,_,h⟩|⟨_,_,h⟩|rfl;·{cases h};·{cases h};·cases op<;>cases x<;>simp[eqGuard,lC,bY,pure]};·{cases op<;>rfl};·{cases op<;>rfl};·cases op<;>rfl};have Bt:binOp .eql T dL fN=(do pure (.bool (←Op.equal T dL fN)):Sem Value):=by{rcases hb with rfl|⟨_,_,rfl⟩<;>rcases hb' with rfl|⟨_,_,rfl⟩<;>rfl};have yf:binOp .neq T dL fN=(do pure (.bool (!(←Op.equal T dL fN))):Sem Value):=by{rcases hb with rfl|⟨_,_,rfl⟩<;>rcases hb' with rfl|⟨_,_,rfl⟩<;>rfl};constructor;·{unfold cV;rw[eZ,hg,Hc,Bt,eZ,h];rfl};·unfold cV;rw[eZ,hg,Hc,yf,eZ,h];rfl
theorem FR{op:BinOp}{r:Bool}[hu:cy C T (.interface ms)](hx:un g (S.get C x)=fe t e:=by first|exact rfl|exact bz)(hy:y=vD:=by exact rfl)(hop:(op= .eql∧r=e.isNil)∨(op= .neq∧r= !e.isNil):=by first|exact .inl ⟨rfl,rfl⟩|exact .inr ⟨rfl,rfl⟩):aR C f call S g ⟨some d, .binOp op T x y bP,ty,pos,aD,aS⟩=some ⟨[(d, .val (.bool r))],[],[]⟩:=by subst hy;have hy:un g (S.get C vD)= .val .nilIface:=by{cases g<;>rfl};cases e with|nil=>(have:=AB (C:=C) (T:=T) (x:=x) (y:=vD) (dL:= .nilIface) (fN:= .nilIface) (.inr (.inr rfl)) (.inl rfl) (.inl rfl) (TH hu.ul);rcases hop with⟨rfl,rfl⟩|⟨rfl,rfl⟩;·{exact j9 hx hy rfl rfl this.1 rfl};·exact j9 hx hy rfl rfl this.2 rfl)|code n=>(have:=AB (C:=C) (T:=T) (x:=x) (y:=vD) (dL:= .iface t (.int .i64 n)) (fN:= .nilIface) (.inl ⟨_,_,rfl⟩) (.inr ⟨_,_,rfl⟩) (.inl rfl) (TF hu.ul);rcases hop with⟨rfl,rfl⟩|⟨rfl,rfl⟩;·{exact j9 hx hy rfl rfl this.1 rfl};·exact j9 hx hy rfl rfl this.2 rfl)|other=>show jT C _ op T x vD (un g (S.get C x)) (un g (S.get C vD))=_;rw[hx,hy];rcases hop with⟨rfl,rfl⟩|⟨rfl,rfl⟩<;>simp[jT,fe,jr,hu.ul,FL,cB.isNil,ret,put]
theorem y9{op:BinOp}{n:Int}{dQ r:Bool}(hc:e.vq n=some dQ)[hu:cy C T (.interface ms)][ht:cy C t (.int .i64)][hb:zZ C t](hx:un g (S.get C x)=fe t e:=by first|exact rfl|exact bz)(hy:un g (S.get C y)=fe t (.code n):=by first|exact rfl|exact bz)(hop:(op= .eql∧r=dQ)∨(op= .neq∧r= !dQ):=by first|exact .inl ⟨rfl,rfl⟩|exact .inr ⟨rfl,rfl⟩):aR C f call S g ⟨some d, .binOp op T x y bP,ty,pos,aD,aS⟩=some ⟨[(d, .val (.bool r))],[],[]⟩:=by cases e with|nil=>(obtain rfl:false=dQ:=GT hc;have:=AB (C:=C) (T:=T) (x:=x) (y:=y) (dL:= .nilIface) (fN:= .iface t (.int .i64 n)) (.inr (.inl ⟨_,_,rfl⟩)) (.inl rfl) (.inr ⟨_,_,rfl⟩) (TG hu.ul);rcases hop with⟨rfl,rfl⟩|⟨rfl,rfl⟩;·{exact j9 hx hy rfl rfl this.1 rfl};·exact j9 hx hy rfl rfl this.2 rfl)|code m=>(obtain rfl:(m==n)=dQ:=GT hc;have:=AB (C:=C) (T:=T) (x:=x) (y:=y) (dL:= .iface t (.int .i64 m)) (fN:= .iface t (.int .i64 n)) (.inl ⟨_,_,rfl⟩) (.inr ⟨_,_,rfl⟩) (.inr ⟨_,_,rfl⟩) (TE hu.ul ht.ul hb.ex);rcases hop with⟨rfl,rfl⟩|⟨rfl,rfl⟩;·{exact j9 hx hy rfl rfl this.1 rfl};·exact j9 hx hy rfl rfl this.2 rfl)|other=>cases hc
theorem jH{n:Int}[hu:cy C t (.int .i64)](hx:un g (S.get C x)= .val (.int .i64 n):=by first|exact rfl|exact bz):aR C f call S g ⟨some d, .makeInterface t x,ty,pos,aD,aS⟩=some ⟨[(d,fe t (.code n))],[],[]⟩:=by show qn C _ t (un g (S.get C x))=_;rw[hx];simp[qn,hu.ul,dc,ret,put,fe]
theorem BT{e':TypeId}{cs:List U}[hu:cy C t (.pointer e')](hx:un g (S.get C x)= .ay cs:=by first|exact rfl|exact bz):aR C f call S g ⟨some d, .makeInterface t x,ty,pos,aD,aS⟩=some ⟨[(d, .nn)],[],[]⟩:=by show qn C _ t (un g (S.get C x))=_;rw[hx];simp[qn,hu.ul,ret,put]
def lS(s:ByteArray):List Int:=s.data.toList.map fun b=>(b.toNat:Int)
theorem Zi{s:ByteArray}{dT:TypeDesc}{el:TypeId}[h1:cy C T dT][h2:cy C bP (.slice el)][h3:cy C el (.int .u8)](hx:un g (S.get C x)= .val (.string s):=by first|exact rfl|exact bz):aR C f call S g ⟨some d, .convert T bP x,ty,pos,aD,aS⟩=some ⟨[(d, .sl ((lS s).map fun n=>[.val (.int .u8 n)]))],[],[]⟩:=by show oS C _ T bP (un g (S.get C x))=_;have hb:qf C T bP=true:=by{simp[qf,h1.ul,h2.ul,h3.ul]};rw[hx];simp[oS,hb,AW,ret,put,xd,lS,List.map_map,Function.comp]
def l8(s:ByteArray):U:= .val (.string s)
theorem LW{α:Type}{c:α→U}{m:Nat}{q:List α}[ha:cu C T true m](hx:un g (S.get C x)= .ay (q.map c):=by exact rfl)(hl:q.length=m:=by exact rfl):aR C f call S g ⟨some d, .load T x,ty,pos,aD,aS⟩=some ⟨[(d, .agg (q.map c))],[],[]⟩:=by show jU C S _ T (un g (S.get C x))=_;have ht:List.take q.length (q.map c)=q.map c:=by{rw[←List.length_map c];exact List.take_length};simp[jU,ha.ja,ha.sz,hx,←hl,gN,ht]
theorem LV{α:Type}{c:α→U}{el:TypeId}{len:Nat}{i:Int}{r:α}{q:List α}(hi:idx q i=some r)[hu:cy C T (.array len el)][hs:cu C el false 1](hx:un g (S.get C x)= .agg (q.map c):=by first|exact rfl|exact bz)(hc:∀x,(c x).cell=true:=by exact fun _=>rfl)(hy:un g (S.get C y)= .val (.int k i):=by first|exact rfl|exact bz)(hl:q.length=len:=by exact rfl):aR C f call S g ⟨some d, .index T x y,ty,pos,aD,aS⟩=some ⟨[(d,c r)],[],[]⟩:=by show qo C _ T (un g (S.get C x)) (dr (un g (S.get C y)))=_;have hb:=yE hi;have hn:=gK hi;subst hl;have hlt:i.toNat<q.length:=by{omega};have e1:((q.map c).drop (i.toNat*1)).take 1=[c r]:=by{have:q[i.toNat]=r:=by{rw[List.getElem?_eq_getElem hlt]at hn;simpa using hn};rw[Nat.mul_one,List.drop_eq_getElem_cons (by simpa using hlt)];simp[this]};simp only[hx,hy,dr,qo,hu.ul,hs.sz,hs.ja];rw[AC ⟨hb.1,hb.2,by simp;omega⟩,e1];simp[gN,put]
end
end Go.Ab
