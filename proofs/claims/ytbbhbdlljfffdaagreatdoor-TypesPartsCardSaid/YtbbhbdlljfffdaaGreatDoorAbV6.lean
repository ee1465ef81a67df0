import Derived.Test.YtbbhbdlljfffdaaGreatDoorAbV4
import Derived.Lib.Strings
import Derived.Lib.Bytealg
import Derived.Lib.Index
import Derived.Lib.IndexMore
import Derived.Lib.Join
open BitVec renaming ofInt→Ha
open Option renaming map_some→Do,bind_some→GT
open Option.some renaming injEq→AC,inj→GE
set_option linter.all false
namespace Go.Ab
open Go
def Ge(k:IntKind)(a b:Int):Option Int:=if b=0 then none else some (k.wrap (a.tdiv b))
def KL(k:IntKind)(a b:Int):Int:=k.wrap ((Ha k.bits a|||Ha k.bits b).toNat:Nat)
def Gr(k:IntKind)(a n:Int):Option Int:=if n<0 then none else some (k.wrap (a*2^(min n.toNat k.bits)))
section
variable{C:aF}{f:FuncId}{call:fO}{S:ah}{g:Bool}
variable{d:Nat}{ty:TypeId}{pos:String}{aV:Array Edge}{bD:Option (Nat×Bool)}{v v':U}
variable{x y z:Operand}{k k':IntKind}{a b:Int}{T an:TypeId}
theorem Xz{P:Program}{r:Int}(h:Ge k a b=some r):eR P .quo T x y (.int k a) (.int k b)=some (.int k r):=by unfold Ge at h;split at h;·{cases h};·rename_i h0;obtain rfl:=GE h;simp[eR,eqGuard,binOp,Op.intDiv,cY,bind,Sem.bind,pure,h0]
theorem afH{r:Int}(h:Ge k a b=some r)(hx:un g (S.get C x)= .val (.int k a):=by first|exact rfl|exact ck)(hy:un g (S.get C y)= .val (.int k b):=by first|exact rfl|exact ck):bC C f call S g ⟨some d, .binOp .quo T x y an,ty,pos,aV,bD⟩=some ⟨[(d, .val (.int k r))],[],[]⟩:=qw (Xz h) rfl hx hy
theorem afF(hx:un g (S.get C x)= .val (.int k a):=by first|exact rfl|exact ck)(hy:un g (S.get C y)= .val (.int k b):=by first|exact rfl|exact ck):bC C f call S g ⟨some d, .binOp .or T x y an,ty,pos,aV,bD⟩=some ⟨[(d, .val (.int k (KL k a b)))],[],[]⟩:=qw (by simp[eR,eqGuard,binOp,Op.intBits,cY,bind,Sem.bind,pure,KL]) rfl hx hy
theorem RB{r:Int}(h:Gr k a b=some r)(hx:un g (S.get C x)= .val (.int k a):=by first|exact rfl|exact ck)(hy:un g (S.get C y)= .val (.int k' b):=by first|exact rfl|exact ck):bC C f call S g ⟨some d, .binOp .shl T x y an,ty,pos,aV,bD⟩=some ⟨[(d, .val (.int k r))],[],[]⟩:=by refine om hx hy rfl rfl ?_ rfl;unfold Gr at h;split at h;·{cases h};·rename_i h0;obtain rfl:=GE h;simp[eR,eqGuard,binOp,Op.shift,cY,bind,Sem.bind,pure,h0]
theorem RA(hx:un g (S.get C x)= .val (.int k a):=by first|exact rfl|exact ck):bC C f call S g ⟨some d, .unOp .neg T x,ty,pos,aV,bD⟩=some ⟨[(d, .val (.int k (k.wrap (0-a))))],[],[]⟩:=afI (by simp[Dz,Op.unary,Op.intArith,cY,pure]) rfl hx
theorem qu{dT:TypeDesc}[h1:c9 C T dT][h2:c9 C an (.int k')](hx:un g (S.get C x)= .val (.int k a):=by first|exact rfl|exact ck):bC C f call S g ⟨some d, .convert T an x,ty,pos,aV,bD⟩=some ⟨[(d, .val (.int k' (k'.wrap a)))],[],[]⟩:=by refine afA ?_ hx rfl (by unfold tN;rw[h2.ul];cases C.P.underlying T<;>rfl);unfold En convert;rw[gZ,oq h1.ul,GT,gZ,oq h2.ul,GT];cases dT<;>rfl
end
end Go.Ab
namespace Go.Ab
open Go
class ja where m:Int
theorem aec{w w':World}(h:RowKit.Below w.heap.size w w')(F:Nat→Prop):Kept w w' F:=⟨h.size,fun b hb _=>h.block b hb,h.os,h.output,fun a ha=>h.frozen ha,tM fun b hb=>h.block b hb⟩
theorem TA{w:World}{I:Nat→Prop}{β:Id→Option Loc}:∀{us vs:List Value}{fp:List Nat},av w I β fp vs (us.map .val)→vs=us∧fp=[]|[],vs,fp,h=>by{have:=h.length;simp only[List.map_nil,List.length_nil,List.length_eq_zero_iff]at this;subst this;generalize hx:(U.agg ([].map U.val))=x at h;cases h with|nil=>(exact⟨rfl,rfl⟩)|_=>cases hx}|u::us,vs,fp,h=>by obtain⟨f1,f2,v',vs',e1,e,k1,k2⟩:=av.cons_inv h;subst e;obtain⟨dL,ie⟩:=TA k2;have kD:=k1.gq;have:f1=[]:=by{generalize hx:U.val u=x at k1;cases k1<;>first|rfl|cases hx};subst this dL ie;simp_all
section
variable{C:aF}{f:FuncId}{fn:Func}{c:Code}
theorem Dq(hf:C.P.funcs[f]? =some fn)(hb:fn.body=some c)(hl:C.ct f=[]){us:List Value}{v:Value}(hv:ey v=true)(h:∀w cE,(∀g cs,C.cw g=some cs→R w cE bS [] (.pointer (some ⟨g,0,none⟩)) (.aI cs))→Calls C.P f ⟨us⟩ w fun e w'=>e= .returned v∧RowKit.Below w.heap.size w w'):pW C f (us.map .val) (.val v,[]):=by intro w cE fp vs hr hnd hI fJ hg;obtain⟨rfl,rfl⟩:=TA hr;refine .inl ⟨fn,c,hf,hb,(h w cE hg).mono fun e w'⟨he,hk⟩=>⟨v,he,⟨aec hk _,fun _=>False,[], ?_,List.nodup_nil,fun b hb=>(by cases hb),fun b hb=>hb.elim⟩⟩⟩;rw[hl];exact .cons (f1:=[]) (f2:=[]) (.val hv) .nil
theorem Pn{w:World}{I:Nat→Prop}{g:Nat}{v:Value}{cs:List U}(h:R w I bS [] (.pointer (some ⟨g,0,none⟩)) (.aI (.val v::cs))):w.cell? ⟨g,0,none⟩=some v:=by obtain⟨_,b,p,vs,hv,_,hc,hr⟩:=h.tw;obtain⟨f1,f2,v',vs',e1,e,k1,k2⟩:=av.cons_inv hr;subst e;have kD:=k1.gq;simp only[Value.pointer.injEq,AC,Addr.mk.injEq]at hv;obtain⟨rfl,rfl,_⟩:=hv;have:=hc 0 v' rfl;rw[Nat.zero_add]at this;rw[this,kD.2]
end
/-! ### As plain data -/
def wD(s p:ByteArray):Option Bool:=some (Lib.hasPrefix s.data.toList p.data.toList)
def Co(s:ByteArray)(c:Int):Option Int:=some (Lib.indexByte s.data.toList c.toNat.toUInt8)
def Cp(s p:ByteArray):Option Int:=if s.size<4294967281 then some (Lib.index s.data.toList p.data.toList)else none
def A5(s p:ByteArray):Option Bool:=if s.size<4294967281 then some (Lib.contains s.data.toList p.data.toList)else none
def yy(s:ByteArray):Option ByteArray:=if s.size≤281474976710656 then some s else none
/-! ### As abstract values -/
def aiL:Rows→Option (List ByteArray)|[]=>some []|[.val (.string s)]::l=>(aiL l).map (s::·)|_=>none
def wC:List U→Option (U×List U)|[.val (.string s), .val (.string p)]=>(wD s p).map fun r=>(.val (.bool r),[])|_=>none
def w5:List U→Option (U×List U)|[.val (.string s), .val (.int .u8 c)]=>(Co s c).map fun r=>(.val (.int .i64 r),[])|_=>none
def w4:List U→Option (U×List U)|[.val (.string s), .val (.string p)]=>(Cp s p).map fun r=>(.val (.int .i64 r),[])|_=>none
def vX:List U→Option (U×List U)|[.val (.string s), .val (.string p)]=>(A5 s p).map fun r=>(.val (.bool r),[])|_=>none
def vW:List U→Option (U×List U)|[.val (.string s)]=>(yy s).map fun r=>(.val (.string r),[])|_=>none
theorem abX{s p:ByteArray}{r:Bool}(h:wD s p=some r):wC [.val (.string s), .val (.string p)]=some (.val (.bool r),[]):=by simp[wC,h]
theorem adZ{s:ByteArray}{c:Int}{r:Int}(h:Co s c=some r):w5 [.val (.string s), .val (.int .u8 c)]=some (.val (.int .i64 r),[]):=by simp[w5,h]
theorem adY{s p:ByteArray}{r:Int}(h:Cp s p=some r):w4 [.val (.string s), .val (.string p)]=some (.val (.int .i64 r),[]):=by simp[w4,h]
theorem YM{s p:ByteArray}{r:Bool}(h:A5 s p=some r):vX [.val (.string s), .val (.string p)]=some (.val (.bool r),[]):=by simp[vX,h]
theorem YC{s:ByteArray}{r:ByteArray}(h:yy s=some r):vW [.val (.string s)]=some (.val (.string r),[]):=by simp[vW,h]
section
variable{C:aF}{f:FuncId}{fn:Func}{c:Code}{args:List U}{r:U×List U}
theorem abY(hf:C.P.funcs[f]? =some fn)(hb:fn.body=some c)(hl:C.ct f=[])(H:∀(s p:ByteArray)(w:World),Calls C.P f #[.string s, .string p] w fun e w'=>e= .returned (.bool (Lib.hasPrefix s.data.toList p.data.toList))∧w'=w){g:List U→Option (U×List U)}(hg:g=wC)(h:g args=some r):pW C f args r:=by subst hg;unfold wC at h;split at h;·{rename_i s p;simp only[wD,Do,AC]at h;subst h;exact Dq (us:=[.string s, .string p]) hf hb hl rfl fun w _ _=>(H s p w).mono fun e w'⟨h1,h2⟩=>⟨h1,h2▸RowKit.Below.refl _ _⟩};·cases h
theorem ad0(hf:C.P.funcs[f]? =some fn)(hb:fn.body=some c)(hl:C.ct f=[])(H:∀(s:ByteArray)(c:Int)(w:World),Calls C.P f #[.string s, .int .u8 c] w fun e w'=>e= .returned (.int .i64 (Lib.indexByte s.data.toList c.toNat.toUInt8))∧w'=w){g:List U→Option (U×List U)}(hg:g=w5)(h:g args=some r):pW C f args r:=by subst hg;unfold w5 at h;split at h;·{rename_i s p;simp only[Co,Do,AC]at h;subst h;exact Dq (us:=[.string s, .int .u8 p]) hf hb hl rfl fun w _ _=>(H s p w).mono fun e w'⟨h1,h2⟩=>⟨h1,h2▸RowKit.Below.refl _ _⟩};·cases h
theorem ad1{k:Nat}{m:Int}{cs:List U}(hf:C.P.funcs[f]? =some fn)(hb:fn.body=some c)(hl:C.ct f=[])(wH:C.cw k=some (.val (.int .i64 m)::cs))(H:∀(s p:ByteArray)(m:Int)(w:World),s.size<4294967281→w.cell? ⟨k,0,none⟩=some (.int .i64 m)→Calls C.P f #[.string s, .string p] w fun e w'=>e= .returned (.int .i64 (Lib.index s.data.toList p.data.toList))∧w'=w){g:List U→Option (U×List U)}(hg:g=w4)(h:g args=some r):pW C f args r:=by subst hg;unfold w4 at h;split at h;·{rename_i s p;unfold Cp at h;split at h;·{rename_i hs;simp only[Do,AC]at h;subst h;exact Dq (us:=[.string s, .string p]) hf hb hl rfl fun w _ hg=>(H s p m w hs (Pn (hg _ _ wH))).mono fun e w'⟨h1,h2⟩=>⟨h1,h2▸RowKit.Below.refl _ _⟩};·cases h};·cases h
theorem YN{k:Nat}{m:Int}{cs:List U}(hf:C.P.funcs[f]? =some fn)(hb:fn.body=some c)(hl:C.ct f=[])(wH:C.cw k=some (.val (.int .i64 m)::cs))(H:∀(s p:ByteArray)(m:Int)(w:World),s.size<4294967281→w.cell? ⟨k,0,none⟩=some (.int .i64 m)→Calls C.P f #[.string s, .string p] w fun e w'=>e= .returned (.bool (Lib.contains s.data.toList p.data.toList))∧w'=w){g:List U→Option (U×List U)}(hg:g=vX)(h:g args=some r):pW C f args r:=by subst hg;unfold vX at h;split at h;·{rename_i s p;unfold A5 at h;split at h;·{rename_i hs;simp only[Do,AC]at h;subst h;exact Dq (us:=[.string s, .string p]) hf hb hl rfl fun w _ hg=>(H s p m w hs (Pn (hg _ _ wH))).mono fun e w'⟨h1,h2⟩=>⟨h1,h2▸RowKit.Below.refl _ _⟩};·cases h};·cases h
theorem YD(hf:C.P.funcs[f]? =some fn)(hb:fn.body=some c)(hl:C.ct f=[])(H:∀(s:ByteArray)(w:World),s.size≤281474976710656→Calls C.P f #[.string s] w fun e w'=>e= .returned (.string s)∧RowKit.Below w.heap.size w w'){g:List U→Option (U×List U)}(hg:g=vW)(h:g args=some r):pW C f args r:=by subst hg;unfold vW at h;split at h;·{rename_i s;unfold yy at h;split at h;·{rename_i hs;simp only[Do,AC]at h;subst h;exact Dq (us:=[.string s]) hf hb hl rfl fun w _ _=>H s w hs};·cases h};·cases h
end
end Go.Ab
namespace Go.Ab
open Go
def dm.isNil:dm→Bool| .nil=>true|_=>false
def dm.zv:dm→Int→Option Bool| .nil,_=>some false| .code m,n=>some (m==n)| .other,_=>none
def N3(P:Program)(t:TypeId):Bool:=match P.info? t with|some i=>i.comparable|none=>false
class DG(C:aF)(t:TypeId):Prop where cb:N3 C.P t=true
theorem DG.ex{C:aF}{t:TypeId}(h:DG C t):∃i,C.P.info? t=some i∧i.comparable=true:=by have:=h.cb;unfold N3 at this;split at this;·{exact⟨_,‹_›,this⟩};·cases this
section
variable{C:aF}{f:FuncId}{call:fO}{S:ah}{g:Bool}
variable{d:Nat}{ty:TypeId}{pos:String}{aV:Array Edge}{bD:Option (Nat×Bool)}{v v':U}
variable{x y z:Operand}{k k':IntKind}{a b:Int}{T an t:TypeId}{e:dm}{ms:Array (String×TypeId)}
theorem Zr{tx:TypeId}{vx:Value}(hu:C.P.underlying T=some (.interface ms)):cY C.P (Op.equal T (.iface tx vx) .nilIface)=some false:=by unfold Op.equal Op.maxDepth;have:∀d,cY C.P (Op.equalIn (d+1) T (.iface tx vx) .nilIface)=some false:=fun d=>by{simp[Op.equalIn,gZ,oq hu,oo]};exact this 9999
theorem Zt(hu:C.P.underlying T=some (.interface ms)):cY C.P (Op.equal T .nilIface .nilIface)=some true:=by unfold Op.equal Op.maxDepth;have:∀d,cY C.P (Op.equalIn (d+1) T .nilIface .nilIface)=some true:=fun d=>by{simp[Op.equalIn,gZ,oq hu,oo]};exact this 9999
theorem Zs{tx:TypeId}{vx:Value}(hu:C.P.underlying T=some (.interface ms)):cY C.P (Op.equal T .nilIface (.iface tx vx))=some false:=by unfold Op.equal Op.maxDepth;have:∀d,cY C.P (Op.equalIn (d+1) T .nilIface (.iface tx vx))=some false:=fun d=>by{simp[Op.equalIn,gZ,oq hu,oo]};exact this 9999
theorem Zq{m n:Int}(hu:C.P.underlying T=some (.interface ms))(ht:C.P.underlying t=some (.int .i64))(hc:∃i,C.P.info? t=some i∧i.comparable=true):cY C.P (Op.equal T (.iface t (.int .i64 m)) (.iface t (.int .i64 n)))=some (m==n):=by obtain⟨i,hi,hc⟩:=hc;unfold Op.equal Op.maxDepth;have:∀d,cY C.P (Op.equalIn (d+1+1) T (.iface t (.int .i64 m)) (.iface t (.int .i64 n)))=some (m==n):=fun d=>by{have JL:cY C.P (typeInfo t)=some i:=by{unfold typeInfo;rw[gZ];show(some C.P).bind _=_;simp[hi,oo]};simp[Op.equalIn,gZ,oq hu,oq ht,oo,JL,hc]};exact this 9998
def zK:Operand:= .const .nilIface
theorem Ed{eP hJ:Value}{r:Bool}(hk:(∃tx vx,eP= .iface tx vx)∨(∃tx vx,hJ= .iface tx vx)∨y= .const .nilIface)(hb:eP= .nilIface∨∃tx vx,eP= .iface tx vx)(hb':hJ= .nilIface∨∃tx vx,hJ= .iface tx vx)(h:cY C.P (Op.equal T eP hJ)=some r):eR C.P .eql T x y eP hJ=some (.bool r)∧eR C.P .neq T x y eP hJ=some (.bool (!r)):=by have hg:∀op,cY C.P (eqGuard op T x y eP hJ)=some ():=fun op=>by{rcases hb with rfl|⟨_,_,rfl⟩<;>rcases hb' with rfl|⟨_,_,rfl⟩;·{rcases hk with⟨_,_,h⟩|⟨_,_,h⟩|rfl;·{cases h};·{cases h};·cases op<;>cases x<;>simp[eqGuard,oo,cY,pure]};·{cases op<;>rfl};·{cases op<;>rfl};·cases op<;>rfl};have Fe:binOp .eql T eP hJ=(do pure (.bool (←Op.equal T eP hJ)):Sem Value):=by{rcases hb with rfl|⟨_,_,rfl⟩<;>rcases hb' with rfl|⟨_,_,rfl⟩<;>rfl};have BY:binOp .neq T eP hJ=(do pure (.bool (!(←Op.equal T eP hJ))):Sem Value):=by{rcases hb with rfl|⟨_,_,rfl⟩<;>rcases hb' with rfl|⟨_,_,rfl⟩<;>rfl};constructor;·{unfold eR;rw[gZ,hg,GT,Fe,gZ,h];rfl};·unfold eR;rw[gZ,hg,GT,BY,gZ,h];rfl
theorem KB{op:BinOp}{r:Bool}[hu:c9 C T (.interface ms)](hx:un g (S.get C x)=gC t e:=by first|exact rfl|exact ck)(hy:y=zK:=by exact rfl)(hop:(op= .eql∧r=e.isNil)∨(op= .neq∧r= !e.isNil):=by first|exact .inl ⟨rfl,rfl⟩|exact .inr ⟨rfl,rfl⟩):bC C f call S g ⟨some d, .binOp op T x y an,ty,pos,aV,bD⟩=some ⟨[(d, .val (.bool r))],[],[]⟩:=by subst hy;have hy:un g (S.get C zK)= .val .nilIface:=by{cases g<;>rfl};cases e with|nil=>(have:=Ed (C:=C) (T:=T) (x:=x) (y:=zK) (eP:= .nilIface) (hJ:= .nilIface) (.inr (.inr rfl)) (.inl rfl) (.inl rfl) (Zt hu.ul);rcases hop with⟨rfl,rfl⟩|⟨rfl,rfl⟩;·{exact om hx hy rfl rfl this.1 rfl};·exact om hx hy rfl rfl this.2 rfl)|code n=>(have:=Ed (C:=C) (T:=T) (x:=x) (y:=zK) (eP:= .iface t (.int .i64 n)) (hJ:= .nilIface) (.inl ⟨_,_,rfl⟩) (.inr ⟨_,_,rfl⟩) (.inl rfl) (Zr hu.ul);rcases hop with⟨rfl,rfl⟩|⟨rfl,rfl⟩;·{exact om hx hy rfl rfl this.1 rfl};·exact om hx hy rfl rfl this.2 rfl)|other=>show sA C _ op T x zK (un g (S.get C x)) (un g (S.get C zK))=_;rw[hx,hy];rcases hop with⟨rfl,rfl⟩|⟨rfl,rfl⟩<;>simp[sA,gC,ox,hu.ul,Kw,dm.isNil,ret,put]
theorem CL{op:BinOp}{n:Int}{eB r:Bool}(hc:e.zv n=some eB)[hu:c9 C T (.interface ms)][ht:c9 C t (.int .i64)][hb:DG C t](hx:un g (S.get C x)=gC t e:=by first|exact rfl|exact ck)(hy:un g (S.get C y)=gC t (.code n):=by first|exact rfl|exact ck)(hop:(op= .eql∧r=eB)∨(op= .neq∧r= !eB):=by first|exact .inl ⟨rfl,rfl⟩|exact .inr ⟨rfl,rfl⟩):bC C f call S g ⟨some d, .binOp op T x y an,ty,pos,aV,bD⟩=some ⟨[(d, .val (.bool r))],[],[]⟩:=by cases e with|nil=>(obtain rfl:false=eB:=GE hc;have:=Ed (C:=C) (T:=T) (x:=x) (y:=y) (eP:= .nilIface) (hJ:= .iface t (.int .i64 n)) (.inr (.inl ⟨_,_,rfl⟩)) (.inl rfl) (.inr ⟨_,_,rfl⟩) (Zs hu.ul);rcases hop with⟨rfl,rfl⟩|⟨rfl,rfl⟩;·{exact om hx hy rfl rfl this.1 rfl};·exact om hx hy rfl rfl this.2 rfl)|code m=>(obtain rfl:(m==n)=eB:=GE hc;have:=Ed (C:=C) (T:=T) (x:=x) (y:=y) (eP:= .iface t (.int .i64 m)) (hJ:= .iface t (.int .i64 n)) (.inl ⟨_,_,rfl⟩) (.inr ⟨_,_,rfl⟩) (.inr ⟨_,_,rfl⟩) (Zq hu.ul ht.ul hb.ex);rcases hop with⟨rfl,rfl⟩|⟨rfl,rfl⟩;·{exact om hx hy rfl rfl this.1 rfl};·exact om hx hy rfl rfl this.2 rfl)|other=>cases hc
theorem mc{n:Int}[hu:c9 C t (.int .i64)](hx:un g (S.get C x)= .val (.int .i64 n):=by first|exact rfl|exact ck):bC C f call S g ⟨some d, .makeInterface t x,ty,pos,aV,bD⟩=some ⟨[(d,gC t (.code n))],[],[]⟩:=by show tV C _ t (un g (S.get C x))=_;rw[hx];simp[tV,hu.ul,ey,ret,put,gC]
theorem FN{e':TypeId}{cs:List U}[hu:c9 C t (.pointer e')](hx:un g (S.get C x)= .aI cs:=by first|exact rfl|exact ck):bC C f call S g ⟨some d, .makeInterface t x,ty,pos,aV,bD⟩=some ⟨[(d, .nn)],[],[]⟩:=by show tV C _ t (un g (S.get C x))=_;rw[hx];simp[tV,hu.ul,ret,put]
def oN(s:ByteArray):List Int:=s.data.toList.map fun b=>(b.toNat:Int)
theorem afz{s:ByteArray}{dT:TypeDesc}{el:TypeId}[h1:c9 C T dT][h2:c9 C an (.slice el)][h3:c9 C el (.int .u8)](hx:un g (S.get C x)= .val (.string s):=by first|exact rfl|exact ck):bC C f call S g ⟨some d, .convert T an x,ty,pos,aV,bD⟩=some ⟨[(d, .sl ((oN s).map fun n=>[.val (.int .u8 n)]))],[],[]⟩:=by show sC C _ T an (un g (S.get C x))=_;have hb:tN C T an=true:=by{simp[tN,h1.ul,h2.ul,h3.ul]};rw[hx];simp[sC,hb,Ev,ret,put,A0,oN,List.map_map,Function.comp]
def oX(s:ByteArray):U:= .val (.string s)
theorem Rv{α:Type}{c:α→U}{m:Nat}{q:List α}[ha:cR C T true m](hx:un g (S.get C x)= .aI (q.map c):=by exact rfl)(hl:q.length=m:=by exact rfl):bC C f call S g ⟨some d, .load T x,ty,pos,aV,bD⟩=some ⟨[(d, .agg (q.map c))],[],[]⟩:=by show lB C S _ T (un g (S.get C x))=_;have ht:List.take q.length (q.map c)=q.map c:=by{rw[←List.length_map c];exact List.take_length};simp[lB,ha.jZ,ha.sz,hx,←hl,iR,ht]
theorem Rt{α:Type}{c:α→U}{el:TypeId}{len:Nat}{i:Int}{r:α}{q:List α}(hi:idx q i=some r)[hu:c9 C T (.array len el)][hs:cR C el false 1](hx:un g (S.get C x)= .agg (q.map c):=by first|exact rfl|exact ck)(hc:∀x,(c x).cell=true:=by exact fun _=>rfl)(hy:un g (S.get C y)= .val (.int k i):=by first|exact rfl|exact ck)(hl:q.length=len:=by exact rfl):bC C f call S g ⟨some d, .index T x y,ty,pos,aV,bD⟩=some ⟨[(d,c r)],[],[]⟩:=by show tW C _ T (un g (S.get C x)) (ei (un g (S.get C y)))=_;have hb:=zm hi;have hn:=kf hi;subst hl;have hlt:i.toNat<q.length:=by{omega};have e1:((q.map c).drop (i.toNat*1)).take 1=[c r]:=by{have:q[i.toNat]=r:=by{rw[List.getElem?_eq_getElem hlt]at hn;simpa using hn};rw[Nat.mul_one,List.drop_eq_getElem_cons (by simpa using hlt)];simp[this]};simp only[hx,hy,ei,tW,hu.ul,hs.sz,hs.jZ];rw[if_pos ⟨hb.1,hb.2,by simp;omega⟩,e1];simp[iR,put]
end
end Go.Ab
