import Derived.Test.YtbbhbdlljfffdaaGreatDoorAbV4
import Derived.Lib.Strings
import Derived.Lib.Bytealg
import Derived.Lib.Index
import Derived.Lib.IndexMore
import Derived.Lib.Join
open BitVec renaming ofInt→Hc
open Option renaming map_some→Ha,bind_some→Hb
open Option.some renaming injEq→GE,inj→GT
set_option linter.all false
namespace Go.Ab
open Go
def jT(a b:ByteArray):Option ByteArray:=if a.size+b.size≤9223372036854775807 then some (a++b)else none
def Ak(k:IntKind)(a b:Int):Option Int:=if b=0 then none else some (k.wrap (a.tdiv b))
def DB(k:IntKind)(a b:Int):Int:=k.wrap ((Hc k.bits a|||Hc k.bits b).toNat:Nat)
def As(k:IntKind)(a n:Int):Option Int:=if n<0 then none else some (k.wrap (a*2^(min n.toNat k.bits)))
section
variable{C:aB}{f:FuncId}{call:eV}{S:ah}{g:Bool}
variable{d:Nat}{ty:TypeId}{pos:String}{aM:Array Edge}{bp:Option (Nat×Bool)}{v v':U}
variable{x y z:Operand}{k k':IntKind}{a b:Int}{T cM:TypeId}
theorem OC{P:Program}{a b r:ByteArray}(h:jT a b=some r):dM P .add T x y (.string a) (.string b)=some (.string r):=by unfold jT at h;split at h;·{rename_i hl;obtain rfl:=GT h;have:¬(((a.size+b.size:Nat):Int)>IntKind.i64.max):=by{have:IntKind.i64.max=9223372036854775807:=by{decide};rw[this];omega};have e:dM P .add T x y (.string a) (.string b)=cu P (Op.stringOp .add a b):=rfl;rw[e];simp only[Op.stringOp,Do this];rfl};·cases h
theorem mh{a b r:ByteArray}(h:jT a b=some r)(hx:un g (S.get C x)= .val (.string a):=by first|exact rfl|exact bN)(hy:un g (S.get C y)= .val (.string b):=by first|exact rfl|exact bN):bn C f call S g ⟨some d, .binOp .add T x y cM,ty,pos,aM,bp⟩=some ⟨[(d, .val (.string r))],[],[]⟩:=kM hx hy rfl rfl (OC h) rfl
theorem ON{P:Program}{r:Int}(h:Ak k a b=some r):dM P .quo T x y (.int k a) (.int k b)=some (.int k r):=by unfold Ak at h;split at h;·{cases h};·rename_i h0;obtain rfl:=GT h;simp[dM,eqGuard,binOp,Op.intDiv,cu,bind,Sem.bind,pure,h0]
theorem VU{r:Int}(h:Ak k a b=some r)(hx:un g (S.get C x)= .val (.int k a):=by first|exact rfl|exact bN)(hy:un g (S.get C y)= .val (.int k b):=by first|exact rfl|exact bN):bn C f call S g ⟨some d, .binOp .quo T x y cM,ty,pos,aM,bp⟩=some ⟨[(d, .val (.int k r))],[],[]⟩:=ni (ON h) rfl hx hy
theorem VT(hx:un g (S.get C x)= .val (.int k a):=by first|exact rfl|exact bN)(hy:un g (S.get C y)= .val (.int k b):=by first|exact rfl|exact bN):bn C f call S g ⟨some d, .binOp .or T x y cM,ty,pos,aM,bp⟩=some ⟨[(d, .val (.int k (DB k a b)))],[],[]⟩:=ni (by simp[dM,eqGuard,binOp,Op.intBits,cu,bind,Sem.bind,pure,DB]) rfl hx hy
theorem JB{r:Int}(h:As k a b=some r)(hx:un g (S.get C x)= .val (.int k a):=by first|exact rfl|exact bN)(hy:un g (S.get C y)= .val (.int k' b):=by first|exact rfl|exact bN):bn C f call S g ⟨some d, .binOp .shl T x y cM,ty,pos,aM,bp⟩=some ⟨[(d, .val (.int k r))],[],[]⟩:=by refine kM hx hy rfl rfl ?_ rfl;unfold As at h;split at h;·{cases h};·rename_i h0;obtain rfl:=GT h;simp[dM,eqGuard,binOp,Op.shift,cu,bind,Sem.bind,pure,h0]
theorem JA(hx:un g (S.get C x)= .val (.int k a):=by first|exact rfl|exact bN):bn C f call S g ⟨some d, .unOp .neg T x,ty,pos,aM,bp⟩=some ⟨[(d, .val (.int k (k.wrap (0-a))))],[],[]⟩:=VW (by simp[x4,Op.unary,Op.intArith,cu,pure]) rfl hx
theorem ng{dT:TypeDesc}[h1:cQ C T dT][h2:cQ C cM (.int k')](hx:un g (S.get C x)= .val (.int k a):=by first|exact rfl|exact bN):bn C f call S g ⟨some d, .convert T cM x,ty,pos,aM,bp⟩=some ⟨[(d, .val (.int k' (k'.wrap a)))],[],[]⟩:=by refine VQ ?_ hx rfl (by unfold pL;rw[h2.ul];cases C.P.underlying T<;>rfl);unfold yP convert;rw[fK,lB h1.ul,Hb,fK,lB h2.ul,Hb];cases dT<;>rfl
end
end Go.Ab
namespace Go.Ab
open Go
class jv where m:Int
theorem UF{w w':World}(h:RowKit.Below w.heap.size w w')(F:Nat→Prop):Kept w w' F:=⟨h.size,fun b hb _=>h.block b hb,h.os,h.output,fun a ha=>h.frozen ha,pK fun b hb=>h.block b hb⟩
theorem Lg{w:World}{I:Nat→Prop}{β:Id→Option Loc}:∀{us vs:List Value}{fp:List Nat},aj w I β fp vs (us.map .val)→vs=us∧fp=[]|[],vs,fp,h=>by{have:=h.length;simp only[List.map_nil,List.length_nil,List.length_eq_zero_iff]at this;subst this;generalize hx:(U.agg ([].map U.val))=x at h;cases h with|nil=>(exact⟨rfl,rfl⟩)|_=>cases hx}|u::us,vs,fp,h=>by obtain⟨f1,f2,v',vs',e1,e,k1,k2⟩:=aj.cons_inv h;subst e;obtain⟨dH,gw⟩:=Lg k2;have jf:=k1.e6;have:f1=[]:=by{generalize hx:U.val u=x at k1;cases k1<;>first|rfl|cases hx};subst this dH gw;simp_all
section
variable{C:aB}{f:FuncId}{fn:Func}{c:Code}
theorem xT(hf:C.P.funcs[f]? =some fn)(hb:fn.body=some c)(hl:C.bL f=[]){us:List Value}{v:Value}(hv:dw v=true)(h:∀w bZ,(∀g cs,C.bJ g=some cs→R w bZ br [] (.pointer (some ⟨g,0,none⟩)) (.aL cs))→Calls C.P f ⟨us⟩ w fun e w'=>e= .returned v∧RowKit.Below w.heap.size w w'):mE C f (us.map .val) (.val v,[]):=by intro w bZ fp vs hr hnd hI fj hg;obtain⟨rfl,rfl⟩:=Lg hr;refine .inl ⟨fn,c,hf,hb,(h w bZ hg).mono fun e w'⟨he,hk⟩=>⟨v,he,⟨UF hk _,fun _=>False,[], ?_,List.nodup_nil,fun b hb=>(by cases hb),fun b hb=>hb.elim⟩⟩⟩;rw[hl];exact .cons (f1:=[]) (f2:=[]) (.val hv) .nil
theorem HN{w:World}{I:Nat→Prop}{g:Nat}{v:Value}{cs:List U}(h:R w I br [] (.pointer (some ⟨g,0,none⟩)) (.aL (.val v::cs))):w.cell? ⟨g,0,none⟩=some v:=by obtain⟨_,b,p,vs,hv,_,hc,hr⟩:=h.oZ;obtain⟨f1,f2,v',vs',e1,e,k1,k2⟩:=aj.cons_inv hr;subst e;have jf:=k1.e6;simp only[Value.pointer.injEq,GE,Addr.mk.injEq]at hv;obtain⟨rfl,rfl,_⟩:=hv;have:=hc 0 v' rfl;rw[Nat.zero_add]at this;rw[this,jf.2]
end
/-! ### As plain data -/
def rG(s p:ByteArray):Option Bool:=some (Lib.hasPrefix s.data.toList p.data.toList)
def wM(s:ByteArray)(c:Int):Option Int:=some (Lib.indexByte s.data.toList c.toNat.toUInt8)
def wN(s p:ByteArray):Option Int:=if s.size<4294967281 then some (Lib.index s.data.toList p.data.toList)else none
def vk(s p:ByteArray):Option Bool:=if s.size<4294967281 then some (Lib.contains s.data.toList p.data.toList)else none
def s4(s:ByteArray):Option ByteArray:=if s.size≤281474976710656 then some s else none
/-! ### As abstract values -/
def Yw:Rows→Option (List ByteArray)|[]=>some []|[.val (.string s)]::l=>(Yw l).map (s::·)|_=>none
def rF:List U→Option (U×List U)|[.val (.string s), .val (.string p)]=>(rG s p).map fun r=>(.val (.bool r),[])|_=>none
def r5:List U→Option (U×List U)|[.val (.string s), .val (.int .u8 c)]=>(wM s c).map fun r=>(.val (.int .i64 r),[])|_=>none
def r4:List U→Option (U×List U)|[.val (.string s), .val (.string p)]=>(wN s p).map fun r=>(.val (.int .i64 r),[])|_=>none
def q5:List U→Option (U×List U)|[.val (.string s), .val (.string p)]=>(vk s p).map fun r=>(.val (.bool r),[])|_=>none
def q4:List U→Option (U×List U)|[.val (.string s)]=>(s4 s).map fun r=>(.val (.string r),[])|_=>none
theorem SQ{s p:ByteArray}{r:Bool}(h:rG s p=some r):rF [.val (.string s), .val (.string p)]=some (.val (.bool r),[]):=by simp[rF,h]
theorem Uu{s:ByteArray}{c:Int}{r:Int}(h:wM s c=some r):r5 [.val (.string s), .val (.int .u8 c)]=some (.val (.int .i64 r),[]):=by simp[r5,h]
theorem Ut{s p:ByteArray}{r:Int}(h:wN s p=some r):r4 [.val (.string s), .val (.string p)]=some (.val (.int .i64 r),[]):=by simp[r4,h]
theorem PV{s p:ByteArray}{r:Bool}(h:vk s p=some r):q5 [.val (.string s), .val (.string p)]=some (.val (.bool r),[]):=by simp[q5,h]
theorem PM{s:ByteArray}{r:ByteArray}(h:s4 s=some r):q4 [.val (.string s)]=some (.val (.string r),[]):=by simp[q4,h]
section
variable{C:aB}{f:FuncId}{fn:Func}{c:Code}{args:List U}{r:U×List U}
theorem SR(hf:C.P.funcs[f]? =some fn)(hb:fn.body=some c)(hl:C.bL f=[])(H:∀(s p:ByteArray)(w:World),Calls C.P f #[.string s, .string p] w fun e w'=>e= .returned (.bool (Lib.hasPrefix s.data.toList p.data.toList))∧w'=w){g:List U→Option (U×List U)}(hg:g=rF)(h:g args=some r):mE C f args r:=by subst hg;unfold rF at h;split at h;·{rename_i s p;simp only[rG,Ha,GE]at h;subst h;exact xT (us:=[.string s, .string p]) hf hb hl rfl fun w _ _=>(H s p w).mono fun e w'⟨h1,h2⟩=>⟨h1,h2▸RowKit.Below.refl _ _⟩};·cases h
theorem Uv(hf:C.P.funcs[f]? =some fn)(hb:fn.body=some c)(hl:C.bL f=[])(H:∀(s:ByteArray)(c:Int)(w:World),Calls C.P f #[.string s, .int .u8 c] w fun e w'=>e= .returned (.int .i64 (Lib.indexByte s.data.toList c.toNat.toUInt8))∧w'=w){g:List U→Option (U×List U)}(hg:g=r5)(h:g args=some r):mE C f args r:=by subst hg;unfold r5 at h;split at h;·{rename_i s p;simp only[wM,Ha,GE]at h;subst h;exact xT (us:=[.string s, .int .u8 p]) hf hb hl rfl fun w _ _=>(H s p w).mono fun e w'⟨h1,h2⟩=>⟨h1,h2▸RowKit.Below.refl _ _⟩};·cases h
theorem Uw{k:Nat}{m:Int}{cs:List U}(hf:C.P.funcs[f]? =some fn)(hb:fn.body=some c)(hl:C.bL f=[])(rK:C.bJ k=some (.val (.int .i64 m)::cs))(H:∀(s p:ByteArray)(m:Int)(w:World),s.size<4294967281→w.cell? ⟨k,0,none⟩=some (.int .i64 m)→Calls C.P f #[.string s, .string p] w fun e w'=>e= .returned (.int .i64 (Lib.index s.data.toList p.data.toList))∧w'=w){g:List U→Option (U×List U)}(hg:g=r4)(h:g args=some r):mE C f args r:=by subst hg;unfold r4 at h;split at h;·{rename_i s p;unfold wN at h;split at h;·{rename_i hs;simp only[Ha,GE]at h;subst h;exact xT (us:=[.string s, .string p]) hf hb hl rfl fun w _ hg=>(H s p m w hs (HN (hg _ _ rK))).mono fun e w'⟨h1,h2⟩=>⟨h1,h2▸RowKit.Below.refl _ _⟩};·cases h};·cases h
theorem PW{k:Nat}{m:Int}{cs:List U}(hf:C.P.funcs[f]? =some fn)(hb:fn.body=some c)(hl:C.bL f=[])(rK:C.bJ k=some (.val (.int .i64 m)::cs))(H:∀(s p:ByteArray)(m:Int)(w:World),s.size<4294967281→w.cell? ⟨k,0,none⟩=some (.int .i64 m)→Calls C.P f #[.string s, .string p] w fun e w'=>e= .returned (.bool (Lib.contains s.data.toList p.data.toList))∧w'=w){g:List U→Option (U×List U)}(hg:g=q5)(h:g args=some r):mE C f args r:=by subst hg;unfold q5 at h;split at h;·{rename_i s p;unfold vk at h;split at h;·{rename_i hs;simp only[Ha,GE]at h;subst h;exact xT (us:=[.string s, .string p]) hf hb hl rfl fun w _ hg=>(H s p m w hs (HN (hg _ _ rK))).mono fun e w'⟨h1,h2⟩=>⟨h1,h2▸RowKit.Below.refl _ _⟩};·cases h};·cases h
theorem PN(hf:C.P.funcs[f]? =some fn)(hb:fn.body=some c)(hl:C.bL f=[])(H:∀(s:ByteArray)(w:World),s.size≤281474976710656→Calls C.P f #[.string s] w fun e w'=>e= .returned (.string s)∧RowKit.Below w.heap.size w w'){g:List U→Option (U×List U)}(hg:g=q4)(h:g args=some r):mE C f args r:=by subst hg;unfold q4 at h;split at h;·{rename_i s;unfold s4 at h;split at h;·{rename_i hs;simp only[Ha,GE]at h;subst h;exact xT (us:=[.string s]) hf hb hl rfl fun w _ _=>H s w hs};·cases h};·cases h
end
end Go.Ab
namespace Go.Ab
open Go
def cI.isNil:cI→Bool| .nil=>true|_=>false
def cI.tU:cI→Int→Option Bool| .nil,_=>some false| .code m,n=>some (m==n)| .other,_=>none
def GN(P:Program)(t:TypeId):Bool:=match P.info? t with|some i=>i.comparable|none=>false
class x9(C:aB)(t:TypeId):Prop where cb:GN C.P t=true
theorem x9.ex{C:aB}{t:TypeId}(h:x9 C t):∃i,C.P.info? t=some i∧i.comparable=true:=by have:=h.cb;unfold GN at this;split at this;·{exact⟨_,‹_›,this⟩};·cases this
section
variable{C:aB}{f:FuncId}{call:eV}{S:ah}{g:Bool}
variable{d:Nat}{ty:TypeId}{pos:String}{aM:Array Edge}{bp:Option (Nat×Bool)}{v v':U}
variable{x y z:Operand}{k k':IntKind}{a b:Int}{T cM t:TypeId}{e:cI}{ms:Array (String×TypeId)}
theorem Qp{tx:TypeId}{vx:Value}(hu:C.P.underlying T=some (.interface ms)):cu C.P (Op.equal T (.iface tx vx) .nilIface)=some false:=by unfold Op.equal Op.maxDepth;have:∀d,cu C.P (Op.equalIn (d+1) T (.iface tx vx) .nilIface)=some false:=fun d=>by{simp[Op.equalIn,fK,lB hu,lA]};exact this 9999
theorem Qr(hu:C.P.underlying T=some (.interface ms)):cu C.P (Op.equal T .nilIface .nilIface)=some true:=by unfold Op.equal Op.maxDepth;have:∀d,cu C.P (Op.equalIn (d+1) T .nilIface .nilIface)=some true:=fun d=>by{simp[Op.equalIn,fK,lB hu,lA]};exact this 9999
theorem Qq{tx:TypeId}{vx:Value}(hu:C.P.underlying T=some (.interface ms)):cu C.P (Op.equal T .nilIface (.iface tx vx))=some false:=by unfold Op.equal Op.maxDepth;have:∀d,cu C.P (Op.equalIn (d+1) T .nilIface (.iface tx vx))=some false:=fun d=>by{simp[Op.equalIn,fK,lB hu,lA]};exact this 9999
theorem Qo{m n:Int}(hu:C.P.underlying T=some (.interface ms))(ht:C.P.underlying t=some (.int .i64))(hc:∃i,C.P.info? t=some i∧i.comparable=true):cu C.P (Op.equal T (.iface t (.int .i64 m)) (.iface t (.int .i64 n)))=some (m==n):=by obtain⟨i,hi,hc⟩:=hc;unfold Op.equal Op.maxDepth;have:∀d,cu C.P (Op.equalIn (d+1+1) T (.iface t (.int .i64 m)) (.iface t (.int .i64 n)))=some (m==n):=fun d=>by{have CL:cu C.P (typeInfo t)=some i:=by{unfold typeInfo;rw[fK];show(some C.P).bind _=_;simp[hi,lA]};simp[Op.equalIn,fK,lB hu,lB ht,lA,CL,hc]};exact this 9998
def uf:Operand:= .const .nilIface
theorem yF{dV fO:Value}{r:Bool}(hk:(∃tx vx,dV= .iface tx vx)∨(∃tx vx,fO= .iface tx vx)∨y= .const .nilIface)(hb:dV= .nilIface∨∃tx vx,dV= .iface tx vx)(hb':fO= .nilIface∨∃tx vx,fO= .iface tx vx)(h:cu C.P (Op.equal T dV fO)=some r):dM C.P .eql T x y dV fO=some (.bool r)∧dM C.P .neq T x y dV fO=some (.bool (!r)):=by have hg:∀op,cu C.P (eqGuard op T x y dV fO)=some ():=fun op=>by{rcases hb with rfl|⟨_,_,rfl⟩<;>rcases hb' with rfl|⟨_,_,rfl⟩;·{rcases hk with⟨_,_,h⟩|⟨_,_,h⟩|rfl;·{cases h};·{cases h};·cases op<;>cases x<;>simp[eqGuard,lA,cu,pure]};·{cases op<;>rfl};·{cases op<;>rfl};·cases op<;>rfl};have zx:binOp .eql T dV fO=(do pure (.bool (←Op.equal T dV fO)):Sem Value):=by{rcases hb with rfl|⟨_,_,rfl⟩<;>rcases hb' with rfl|⟨_,_,rfl⟩<;>rfl};have Cw:binOp .neq T dV fO=(do pure (.bool (!(←Op.equal T dV fO))):Sem Value):=by{rcases hb with rfl|⟨_,_,rfl⟩<;>rcases hb' with rfl|⟨_,_,rfl⟩<;>rfl};constructor;·{unfold dM;rw[fK,hg,Hb,zx,fK,h];rfl};·unfold dM;rw[fK,hg,Hb,Cw,fK,h];rfl
theorem Dr{op:BinOp}{r:Bool}[hu:cQ C T (.interface ms)](hx:un g (S.get C x)=fh t e:=by first|exact rfl|exact bN)(hy:y=uf:=by exact rfl)(hop:(op= .eql∧r=e.isNil)∨(op= .neq∧r= !e.isNil):=by first|exact .inl ⟨rfl,rfl⟩|exact .inr ⟨rfl,rfl⟩):bn C f call S g ⟨some d, .binOp op T x y cM,ty,pos,aM,bp⟩=some ⟨[(d, .val (.bool r))],[],[]⟩:=by subst hy;have hy:un g (S.get C uf)= .val .nilIface:=by{cases g<;>rfl};cases e with|nil=>(have:=yF (C:=C) (T:=T) (x:=x) (y:=uf) (dV:= .nilIface) (fO:= .nilIface) (.inr (.inr rfl)) (.inl rfl) (.inl rfl) (Qr hu.ul);rcases hop with⟨rfl,rfl⟩|⟨rfl,rfl⟩;·{exact kM hx hy rfl rfl this.1 rfl};·exact kM hx hy rfl rfl this.2 rfl)|code n=>(have:=yF (C:=C) (T:=T) (x:=x) (y:=uf) (dV:= .iface t (.int .i64 n)) (fO:= .nilIface) (.inl ⟨_,_,rfl⟩) (.inr ⟨_,_,rfl⟩) (.inl rfl) (Qp hu.ul);rcases hop with⟨rfl,rfl⟩|⟨rfl,rfl⟩;·{exact kM hx hy rfl rfl this.1 rfl};·exact kM hx hy rfl rfl this.2 rfl)|other=>show ov C _ op T x uf (un g (S.get C x)) (un g (S.get C uf))=_;rw[hx,hy];rcases hop with⟨rfl,rfl⟩|⟨rfl,rfl⟩<;>simp[ov,fh,lD,hu.ul,Dl,cI.isNil,ret,put]
theorem xj{op:BinOp}{n:Int}{dK r:Bool}(hc:e.tU n=some dK)[hu:cQ C T (.interface ms)][ht:cQ C t (.int .i64)][hb:x9 C t](hx:un g (S.get C x)=fh t e:=by first|exact rfl|exact bN)(hy:un g (S.get C y)=fh t (.code n):=by first|exact rfl|exact bN)(hop:(op= .eql∧r=dK)∨(op= .neq∧r= !dK):=by first|exact .inl ⟨rfl,rfl⟩|exact .inr ⟨rfl,rfl⟩):bn C f call S g ⟨some d, .binOp op T x y cM,ty,pos,aM,bp⟩=some ⟨[(d, .val (.bool r))],[],[]⟩:=by cases e with|nil=>(obtain rfl:false=dK:=GT hc;have:=yF (C:=C) (T:=T) (x:=x) (y:=y) (dV:= .nilIface) (fO:= .iface t (.int .i64 n)) (.inr (.inl ⟨_,_,rfl⟩)) (.inl rfl) (.inr ⟨_,_,rfl⟩) (Qq hu.ul);rcases hop with⟨rfl,rfl⟩|⟨rfl,rfl⟩;·{exact kM hx hy rfl rfl this.1 rfl};·exact kM hx hy rfl rfl this.2 rfl)|code m=>(obtain rfl:(m==n)=dK:=GT hc;have:=yF (C:=C) (T:=T) (x:=x) (y:=y) (dV:= .iface t (.int .i64 m)) (fO:= .iface t (.int .i64 n)) (.inl ⟨_,_,rfl⟩) (.inr ⟨_,_,rfl⟩) (.inr ⟨_,_,rfl⟩) (Qo hu.ul ht.ul hb.ex);rcases hop with⟨rfl,rfl⟩|⟨rfl,rfl⟩;·{exact kM hx hy rfl rfl this.1 rfl};·exact kM hx hy rfl rfl this.2 rfl)|other=>cases hc
theorem jJ{n:Int}[hu:cQ C t (.int .i64)](hx:un g (S.get C x)= .val (.int .i64 n):=by first|exact rfl|exact bN):bn C f call S g ⟨some d, .makeInterface t x,ty,pos,aM,bp⟩=some ⟨[(d,fh t (.code n))],[],[]⟩:=by show pS C _ t (un g (S.get C x))=_;rw[hx];simp[pS,hu.ul,dw,ret,put,fh]
theorem zS{e':TypeId}{cs:List U}[hu:cQ C t (.pointer e')](hx:un g (S.get C x)= .aL cs:=by first|exact rfl|exact bN):bn C f call S g ⟨some d, .makeInterface t x,ty,pos,aM,bp⟩=some ⟨[(d, .nn)],[],[]⟩:=by show pS C _ t (un g (S.get C x))=_;rw[hx];simp[pS,hu.ul,ret,put]
def lR(s:ByteArray):List Int:=s.data.toList.map fun b=>(b.toNat:Int)
theorem VO{s:ByteArray}{dT:TypeDesc}{el:TypeId}[h1:cQ C T dT][h2:cQ C cM (.slice el)][h3:cQ C el (.int .u8)](hx:un g (S.get C x)= .val (.string s):=by first|exact rfl|exact bN):bn C f call S g ⟨some d, .convert T cM x,ty,pos,aM,bp⟩=some ⟨[(d, .sl ((lR s).map fun n=>[.val (.int .u8 n)]))],[],[]⟩:=by show ox C _ T cM (un g (S.get C x))=_;have hb:pL C T cM=true:=by{simp[pL,h1.ul,h2.ul,h3.ul]};rw[hx];simp[ox,hb,yW,ret,put,vf,lR,List.map_map,Function.comp]
def lZ(s:ByteArray):U:= .val (.string s)
theorem Jx{α:Type}{c:α→U}{m:Nat}{q:List α}[ha:cK C T true m](hx:un g (S.get C x)= .aL (q.map c):=by exact rfl)(hl:q.length=m:=by exact rfl):bn C f call S g ⟨some d, .load T x,ty,pos,aM,bp⟩=some ⟨[(d, .agg (q.map c))],[],[]⟩:=by show iY C S _ T (un g (S.get C x))=_;have ht:List.take q.length (q.map c)=q.map c:=by{rw[←List.length_map c];exact List.take_length};simp[iY,ha.iH,ha.sz,hx,←hl,gx,ht]
theorem Jw{α:Type}{c:α→U}{el:TypeId}{len:Nat}{i:Int}{r:α}{q:List α}(hi:idx q i=some r)[hu:cQ C T (.array len el)][hs:cK C el false 1](hx:un g (S.get C x)= .agg (q.map c):=by first|exact rfl|exact bN)(hc:∀x,(c x).cell=true:=by exact fun _=>rfl)(hy:un g (S.get C y)= .val (.int k i):=by first|exact rfl|exact bN)(hl:q.length=len:=by exact rfl):bn C f call S g ⟨some d, .index T x y,ty,pos,aM,bp⟩=some ⟨[(d,c r)],[],[]⟩:=by show pT C _ T (un g (S.get C x)) (dA (un g (S.get C y)))=_;have hb:=wK hi;have hn:=mb hi;subst hl;have hlt:i.toNat<q.length:=by{omega};have e1:((q.map c).drop (i.toNat*1)).take 1=[c r]:=by{have:q[i.toNat]=r:=by{rw[List.getElem?_eq_getElem hlt]at hn;simpa using hn};rw[Nat.mul_one,List.drop_eq_getElem_cons (by simpa using hlt)];simp[this]};simp only[hx,hy,dA,pT,hu.ul,hs.sz,hs.iH];rw[AC ⟨hb.1,hb.2,by simp;omega⟩,e1];simp[gx,put]
end
end Go.Ab
