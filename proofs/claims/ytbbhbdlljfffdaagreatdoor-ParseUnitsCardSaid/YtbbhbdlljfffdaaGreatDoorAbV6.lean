import Derived.Test.YtbbhbdlljfffdaaGreatDoorAbV7
import Derived.Lib.IndexMore
import Derived.Lib.Join
open BitVec renaming ofInt->Ha
open Option renaming map_some->Do,bind_some->GT
open Option.some renaming injEq->AC,inj->GE
set_option linter.all false
namespace Go.Ab
open Go
def tZ(k:IntKind)(a b:Int):Option Int:=if b=0 then none else some (k.wrap (a.tdiv b))
def Jb(k:IntKind)(a b:Int):Int:=k.wrap ((Ha k.bits a|||Ha k.bits b).toNat:Nat)
def C5(k:IntKind)(a n:Int):Option Int:=if n<0 then none else some (k.wrap (a*2^(min n.toNat k.bits)))
section
variable{C:aF}{f:FuncId}{call:gK}{S:aj}{g:Bool}
variable{d:Nat}{ty:TypeId}{pos:String}{bt:Array Edge}{bS:Option (Nat×Bool)}{v v':U}
variable{x y z:Operand}{k k':IntKind}{a b:Int}{T dn:TypeId}
theorem aac{P:Program}{r:Int}(h:tZ k a b=some r):fE P .quo T x y (.int k a) (.int k b)=some (.int k r):=by unfold tZ at h;split at h;·{cases h};·rename_i h0;obtain rfl:=GE h;simp[fE,eqGuard,binOp,Op.intDiv,dL,bind,Sem.bind,pure,h0]
theorem Tw{r:Int}(h:tZ k a b=some r)(hx:un g (S.get C x)= .val (.int k a):=by first|exact rfl|exact cY)(hy:un g (S.get C y)= .val (.int k b):=by first|exact rfl|exact cY):bU C f call S g ⟨some d, .binOp .quo T x y dn,ty,pos,bt,bS⟩=some ⟨[(d, .val (.int k r))],[],[]⟩:=sH (aac h) rfl hx hy
theorem ahJ(hx:un g (S.get C x)= .val (.int k a):=by first|exact rfl|exact cY)(hy:un g (S.get C y)= .val (.int k b):=by first|exact rfl|exact cY):bU C f call S g ⟨some d, .binOp .or T x y dn,ty,pos,bt,bS⟩=some ⟨[(d, .val (.int k (Jb k a b)))],[],[]⟩:=sH (by simp[fE,eqGuard,binOp,Op.intBits,dL,bind,Sem.bind,pure,Jb]) rfl hx hy
theorem Tx{r:Int}(h:C5 k a b=some r)(hx:un g (S.get C x)= .val (.int k a):=by first|exact rfl|exact cY)(hy:un g (S.get C y)= .val (.int k' b):=by first|exact rfl|exact cY):bU C f call S g ⟨some d, .binOp .shl T x y dn,ty,pos,bt,bS⟩=some ⟨[(d, .val (.int k r))],[],[]⟩:=by refine qm hx hy rfl rfl ?_ rfl;unfold C5 at h;split at h;·{cases h};·rename_i h0;obtain rfl:=GE h;simp[fE,eqGuard,binOp,Op.shift,dL,bind,Sem.bind,pure,h0]
theorem Tv(hx:un g (S.get C x)= .val (.int k a):=by first|exact rfl|exact cY):bU C f call S g ⟨some d, .unOp .neg T x,ty,pos,bt,bS⟩=some ⟨[(d, .val (.int k (k.wrap (0-a))))],[],[]⟩:=ahK (by simp[GF,Op.unary,Op.intArith,dL,pure]) rfl hx
theorem nU{dT:TypeDesc}[h1:eL C T dT][h2:eL C dn (.int k')](hx:un g (S.get C x)= .val (.int k a):=by first|exact rfl|exact cY):bU C f call S g ⟨some d, .convert T dn x,ty,pos,bt,bS⟩=some ⟨[(d, .val (.int k' (k'.wrap a)))],[],[]⟩:=by refine ahG ?_ hx rfl (by unfold wI;rw[h2.ul];cases C.P.underlying T<;>rfl);unfold HF convert;rw[iF,qt h1.ul,GT,iF,qt h2.ul,GT];cases dT<;>rfl
end
open Go
class kU where m:Int
theorem agm{w w':World}(h:RowKit.Below w.heap.size w w')(F:Nat->Prop):Kept w w' F:=⟨h.size,fun b hb _=>h.block b hb,h.os,h.output,fun a ha=>h.frozen ha,Bw fun b hb=>h.block b hb⟩
theorem VE{w:World}{I:Nat->Prop}{β:Id->Option Loc}:∀{us vs:List Value}{fp:List Nat},ay w I β fp vs (us.map .val)->vs=us∧fp=[]|[],vs,fp,h=>by{have:=h.length;simp only[List.map_nil,List.length_nil,List.length_eq_zero_iff]at this;subst this;generalize hx:(U.agg ([].map U.val))=x at h;cases h with|nil=>(exact⟨rfl,rfl⟩)|_=>cases hx}|u::us,vs,fp,h=>by obtain⟨f1,f2,v',vs',e1,e,k1,k2⟩:=ay.cons_inv h;subst e;obtain⟨dF,kF⟩:=VE k2;have nk:=k1.jA;have:f1=[]:=by{generalize hx:U.val u=x at k1;cases k1<;>first|rfl|cases hx};subst this dF kF;simp_all
section
variable{C:aF}{f:FuncId}{fn:Func}{c:Code}
theorem Gi(hf:C.P.funcs[f]? =some fn)(hb:fn.body=some c)(hl:C.c4 f=[]){us:List Value}{v:Value}(hv:gN v=true)(h:∀w dG,(∀g cs,C.eH g=some cs->R w dG cm [] (.pointer (some ⟨g,0,none⟩)) (.bD cs))->Calls C.P f ⟨us⟩ w fun e w'=>e= .returned v∧RowKit.Below w.heap.size w w'):rO C f (us.map .val) (.val v,[]):=by intro w dG fp vs hr hnd hI dO hg;obtain⟨rfl,rfl⟩:=VE hr;refine .inl ⟨fn,c,hf,hb,(h w dG hg).mono fun e w'⟨he,hk⟩=>⟨v,he,⟨agm hk _,fun _=>False,[], ?_,List.nodup_nil,fun b hb=>(by cases hb),fun b hb=>hb.elim⟩⟩⟩;rw[hl];exact .cons (f1:=[]) (f2:=[]) (.val hv) .nil
theorem Rx{w:World}{I:Nat->Prop}{g:Nat}{v:Value}{cs:List U}(h:R w I cm [] (.pointer (some ⟨g,0,none⟩)) (.bD (.val v::cs))):w.cell? ⟨g,0,none⟩=some v:=by obtain⟨_,b,p,vs,hv,_,hc,hr⟩:=h.v8;obtain⟨f1,f2,v',vs',e1,e,k1,k2⟩:=ay.cons_inv hr;subst e;have nk:=k1.jA;simp only[Value.pointer.injEq,AC,Addr.mk.injEq]at hv;obtain⟨rfl,rfl,_⟩:=hv;have:=hc 0 v' rfl;rw[Nat.zero_add]at this;rw[this,nk.2]
end
/-! ### As plain data -/
def se(s p:ByteArray):Option Bool:=some (Lib.hasPrefix s.data.toList p.data.toList)
def Cg(s:ByteArray)(c:Int):Option Int:=some (Lib.indexByte s.data.toList c.toNat.toUInt8)
def xl(s p:ByteArray):Option Int:=if s.size<4294967281 then some (Lib.index s.data.toList p.data.toList)else none
def yZ(s p:ByteArray):Option Bool:=if s.size<4294967281 then some (Lib.contains s.data.toList p.data.toList)else none
def wJ(s:ByteArray):Option ByteArray:=if s.size<=281474976710656 then some s else none
/-! ### As abstract values -/
def alx:Rows->Option (List ByteArray)|[]=>some []|[.val (.string s)]::l=>(alx l).map (s::·)|_=>none
def zv:List U->Option (U×List U)|[.val (.string s), .val (.string p)]=>(se s p).map fun r=>(.val (.bool r),[])|_=>none
def zO:List U->Option (U×List U)|[.val (.string s), .val (.int .u8 c)]=>(Cg s c).map fun r=>(.val (.int .i64 r),[])|_=>none
def zN:List U->Option (U×List U)|[.val (.string s), .val (.string p)]=>(xl s p).map fun r=>(.val (.int .i64 r),[])|_=>none
def yY:List U->Option (U×List U)|[.val (.string s), .val (.string p)]=>(yZ s p).map fun r=>(.val (.bool r),[])|_=>none
def yW:List U->Option (U×List U)|[.val (.string s)]=>(wJ s).map fun r=>(.val (.string r),[])|_=>none
theorem ael{s p:ByteArray}{r:Bool}(h:se s p=some r):zv [.val (.string s), .val (.string p)]=some (.val (.bool r),[]):=by simp[zv,h]
theorem af7{s:ByteArray}{c:Int}{r:Int}(h:Cg s c=some r):zO [.val (.string s), .val (.int .u8 c)]=some (.val (.int .i64 r),[]):=by simp[zO,h]
theorem af6{s p:ByteArray}{r:Int}(h:xl s p=some r):zN [.val (.string s), .val (.string p)]=some (.val (.int .i64 r),[]):=by simp[zN,h]
theorem abm{s p:ByteArray}{r:Bool}(h:yZ s p=some r):yY [.val (.string s), .val (.string p)]=some (.val (.bool r),[]):=by simp[yY,h]
theorem abe{s:ByteArray}{r:ByteArray}(h:wJ s=some r):yW [.val (.string s)]=some (.val (.string r),[]):=by simp[yW,h]
section
variable{C:aF}{f:FuncId}{fn:Func}{c:Code}{args:List U}{r:U×List U}
theorem aem(hf:C.P.funcs[f]? =some fn)(hb:fn.body=some c)(hl:C.c4 f=[])(H:∀(s p:ByteArray)(w:World),Calls C.P f #[.string s, .string p] w fun e w'=>e= .returned (.bool (Lib.hasPrefix s.data.toList p.data.toList))∧w'=w){g:List U->Option (U×List U)}(hg:g=zv)(h:g args=some r):rO C f args r:=by subst hg;unfold zv at h;split at h;·{rename_i s p;simp only[se,Do,AC]at h;subst h;exact Gi (us:=[.string s, .string p]) hf hb hl rfl fun w _ _=>(H s p w).mono fun e w'⟨h1,h2⟩=>⟨h1,h2▸RowKit.Below.refl _ _⟩};·cases h
theorem af8(hf:C.P.funcs[f]? =some fn)(hb:fn.body=some c)(hl:C.c4 f=[])(H:∀(s:ByteArray)(c:Int)(w:World),Calls C.P f #[.string s, .int .u8 c] w fun e w'=>e= .returned (.int .i64 (Lib.indexByte s.data.toList c.toNat.toUInt8))∧w'=w){g:List U->Option (U×List U)}(hg:g=zO)(h:g args=some r):rO C f args r:=by subst hg;unfold zO at h;split at h;·{rename_i s p;simp only[Cg,Do,AC]at h;subst h;exact Gi (us:=[.string s, .int .u8 p]) hf hb hl rfl fun w _ _=>(H s p w).mono fun e w'⟨h1,h2⟩=>⟨h1,h2▸RowKit.Below.refl _ _⟩};·cases h
theorem af9{k:Nat}{m:Int}{cs:List U}(hf:C.P.funcs[f]? =some fn)(hb:fn.body=some c)(hl:C.c4 f=[])(LX:C.eH k=some (.val (.int .i64 m)::cs))(H:∀(s p:ByteArray)(m:Int)(w:World),s.size<4294967281->w.cell? ⟨k,0,none⟩=some (.int .i64 m)->Calls C.P f #[.string s, .string p] w fun e w'=>e= .returned (.int .i64 (Lib.index s.data.toList p.data.toList))∧w'=w){g:List U->Option (U×List U)}(hg:g=zN)(h:g args=some r):rO C f args r:=by subst hg;unfold zN at h;split at h;·{rename_i s p;unfold xl at h;split at h;·{rename_i hs;simp only[Do,AC]at h;subst h;exact Gi (us:=[.string s, .string p]) hf hb hl rfl fun w _ hg=>(H s p m w hs (Rx (hg _ _ LX))).mono fun e w'⟨h1,h2⟩=>⟨h1,h2▸RowKit.Below.refl _ _⟩};·cases h};·cases h
theorem abn{k:Nat}{m:Int}{cs:List U}(hf:C.P.funcs[f]? =some fn)(hb:fn.body=some c)(hl:C.c4 f=[])(LX:C.eH k=some (.val (.int .i64 m)::cs))(H:∀(s p:ByteArray)(m:Int)(w:World),s.size<4294967281->w.cell? ⟨k,0,none⟩=some (.int .i64 m)->Calls C.P f #[.string s, .string p] w fun e w'=>e= .returned (.bool (Lib.contains s.data.toList p.data.toList))∧w'=w){g:List U->Option (U×List U)}(hg:g=yY)(h:g args=some r):rO C f args r:=by subst hg;unfold yY at h;split at h;·{rename_i s p;unfold yZ at h;split at h;·{rename_i hs;simp only[Do,AC]at h;subst h;exact Gi (us:=[.string s, .string p]) hf hb hl rfl fun w _ hg=>(H s p m w hs (Rx (hg _ _ LX))).mono fun e w'⟨h1,h2⟩=>⟨h1,h2▸RowKit.Below.refl _ _⟩};·cases h};·cases h
theorem abf(hf:C.P.funcs[f]? =some fn)(hb:fn.body=some c)(hl:C.c4 f=[])(H:∀(s:ByteArray)(w:World),s.size<=281474976710656->Calls C.P f #[.string s] w fun e w'=>e= .returned (.string s)∧RowKit.Below w.heap.size w w'){g:List U->Option (U×List U)}(hg:g=yW)(h:g args=some r):rO C f args r:=by subst hg;unfold yW at h;split at h;·{rename_i s;unfold wJ at h;split at h;·{rename_i hs;simp only[Do,AC]at h;subst h;exact Gi (us:=[.string s]) hf hb hl rfl fun w _ _=>H s w hs};·cases h};·cases h
end
open Go
def cJ.isNil:cJ->Bool| .nil=>true|_=>false
def cJ.tN:cJ->Int->Option Bool| .nil,_=>some false| .code m,n=>some (m==n)| .other,_=>none
def QA(P:Program)(t:TypeId):Bool:=match P.info? t with|some i=>i.comparable|none=>false
class GN(C:aF)(t:TypeId):Prop where cb:QA C.P t=true
theorem GN.ex{C:aF}{t:TypeId}(h:GN C t):∃i,C.P.info? t=some i∧i.comparable=true:=by have:=h.cb;unfold QA at this;split at this;·{exact⟨_,‹_›,this⟩};·cases this
section
variable{C:aF}{f:FuncId}{call:gK}{S:aj}{g:Bool}
variable{d:Nat}{ty:TypeId}{pos:String}{bt:Array Edge}{bS:Option (Nat×Bool)}{v v':U}
variable{x y z:Operand}{k k':IntKind}{a b:Int}{T dn t:TypeId}{e:cJ}{ms:Array (String×TypeId)}
theorem ab2{tx:TypeId}{vx:Value}(hu:C.P.underlying T=some (.interface ms)):dL C.P (Op.equal T (.iface tx vx) .nilIface)=some false:=by unfold Op.equal Op.maxDepth;have:∀d,dL C.P (Op.equalIn (d+1) T (.iface tx vx) .nilIface)=some false:=fun d=>by{simp[Op.equalIn,iF,qt hu,pJ]};exact this 9999
theorem ab4(hu:C.P.underlying T=some (.interface ms)):dL C.P (Op.equal T .nilIface .nilIface)=some true:=by unfold Op.equal Op.maxDepth;have:∀d,dL C.P (Op.equalIn (d+1) T .nilIface .nilIface)=some true:=fun d=>by{simp[Op.equalIn,iF,qt hu,pJ]};exact this 9999
theorem ab3{tx:TypeId}{vx:Value}(hu:C.P.underlying T=some (.interface ms)):dL C.P (Op.equal T .nilIface (.iface tx vx))=some false:=by unfold Op.equal Op.maxDepth;have:∀d,dL C.P (Op.equalIn (d+1) T .nilIface (.iface tx vx))=some false:=fun d=>by{simp[Op.equalIn,iF,qt hu,pJ]};exact this 9999
theorem ab1{m n:Int}(hu:C.P.underlying T=some (.interface ms))(ht:C.P.underlying t=some (.int .i64))(hc:∃i,C.P.info? t=some i∧i.comparable=true):dL C.P (Op.equal T (.iface t (.int .i64 m)) (.iface t (.int .i64 n)))=some (m==n):=by obtain⟨i,hi,hc⟩:=hc;unfold Op.equal Op.maxDepth;have:∀d,dL C.P (Op.equalIn (d+1+1) T (.iface t (.int .i64 m)) (.iface t (.int .i64 n)))=some (m==n):=fun d=>by{have Mn:dL C.P (typeInfo t)=some i:=by{unfold typeInfo;rw[iF];show(some C.P).bind _=_;simp[hi,pJ]};simp[Op.equalIn,iF,qt hu,qt ht,pJ,Mn,hc]};exact this 9998
def Cx:Operand:= .const .nilIface
theorem Hu{fL jB:Value}{r:Bool}(hk:(∃tx vx,fL= .iface tx vx)∨(∃tx vx,jB= .iface tx vx)∨y= .const .nilIface)(hb:fL= .nilIface∨∃tx vx,fL= .iface tx vx)(hb':jB= .nilIface∨∃tx vx,jB= .iface tx vx)(h:dL C.P (Op.equal T fL jB)=some r):fE C.P .eql T x y fL jB=some (.bool r)∧fE C.P .neq T x y fL jB=some (.bool (!r)):=by have hg:∀op,dL C.P (eqGuard op T x y fL jB)=some ():=fun op=>by{rcases hb with rfl|⟨_,_,rfl⟩<;>rcases hb' with rfl|⟨_,_,rfl⟩;·{rcases hk with⟨_,_,h⟩|⟨_,_,h⟩|rfl;·{cases h};·{cases h};·cases op<;>cases x<;>simp[eqGuard,pJ,dL,pure]};·{cases op<;>rfl};·{cases op<;>rfl};·cases op<;>rfl};have zE:binOp .eql T fL jB=(do pure (.bool (<-Op.equal T fL jB)):Sem Value):=by{rcases hb with rfl|⟨_,_,rfl⟩<;>rcases hb' with rfl|⟨_,_,rfl⟩<;>rfl};have afd:binOp .neq T fL jB=(do pure (.bool (!(<-Op.equal T fL jB))):Sem Value):=by{rcases hb with rfl|⟨_,_,rfl⟩<;>rcases hb' with rfl|⟨_,_,rfl⟩<;>rfl};constructor;·{unfold fE;rw[iF,hg,GT,zE,iF,h];rfl};·unfold fE;rw[iF,hg,GT,afd,iF,h];rfl
theorem No{op:BinOp}{r:Bool}[hu:eL C T (.interface ms)](hx:un g (S.get C x)=iU t e:=by first|exact rfl|exact cY)(hy:y=Cx:=by exact rfl)(hop:(op= .eql∧r=e.isNil)∨(op= .neq∧r= !e.isNil):=by first|exact .inl ⟨rfl,rfl⟩|exact .inr ⟨rfl,rfl⟩):bU C f call S g ⟨some d, .binOp op T x y dn,ty,pos,bt,bS⟩=some ⟨[(d, .val (.bool r))],[],[]⟩:=by subst hy;have hy:un g (S.get C Cx)= .val .nilIface:=by{cases g<;>rfl};cases e with|nil=>(have:=Hu (C:=C) (T:=T) (x:=x) (y:=Cx) (fL:= .nilIface) (jB:= .nilIface) (.inr (.inr rfl)) (.inl rfl) (.inl rfl) (ab4 hu.ul);rcases hop with⟨rfl,rfl⟩|⟨rfl,rfl⟩;·{exact qm hx hy rfl rfl this.1 rfl};·exact qm hx hy rfl rfl this.2 rfl)|code n=>(have:=Hu (C:=C) (T:=T) (x:=x) (y:=Cx) (fL:= .iface t (.int .i64 n)) (jB:= .nilIface) (.inl ⟨_,_,rfl⟩) (.inr ⟨_,_,rfl⟩) (.inl rfl) (ab2 hu.ul);rcases hop with⟨rfl,rfl⟩|⟨rfl,rfl⟩;·{exact qm hx hy rfl rfl this.1 rfl};·exact qm hx hy rfl rfl this.2 rfl)|other=>show uK C _ op T x Cx (un g (S.get C x)) (un g (S.get C Cx))=_;rw[hx,hy];rcases hop with⟨rfl,rfl⟩|⟨rfl,rfl⟩<;>simp[uK,iU,nF,hu.ul,Nf,cJ.isNil,ret,put]
theorem Fs{op:BinOp}{n:Int}{fC r:Bool}(hc:e.tN n=some fC)[hu:eL C T (.interface ms)][ht:eL C t (.int .i64)][hb:GN C t](hx:un g (S.get C x)=iU t e:=by first|exact rfl|exact cY)(hy:un g (S.get C y)=iU t (.code n):=by first|exact rfl|exact cY)(hop:(op= .eql∧r=fC)∨(op= .neq∧r= !fC):=by first|exact .inl ⟨rfl,rfl⟩|exact .inr ⟨rfl,rfl⟩):bU C f call S g ⟨some d, .binOp op T x y dn,ty,pos,bt,bS⟩=some ⟨[(d, .val (.bool r))],[],[]⟩:=by cases e with|nil=>(obtain rfl:false=fC:=GE hc;have:=Hu (C:=C) (T:=T) (x:=x) (y:=y) (fL:= .nilIface) (jB:= .iface t (.int .i64 n)) (.inr (.inl ⟨_,_,rfl⟩)) (.inl rfl) (.inr ⟨_,_,rfl⟩) (ab3 hu.ul);rcases hop with⟨rfl,rfl⟩|⟨rfl,rfl⟩;·{exact qm hx hy rfl rfl this.1 rfl};·exact qm hx hy rfl rfl this.2 rfl)|code m=>(obtain rfl:(m==n)=fC:=GE hc;have:=Hu (C:=C) (T:=T) (x:=x) (y:=y) (fL:= .iface t (.int .i64 m)) (jB:= .iface t (.int .i64 n)) (.inl ⟨_,_,rfl⟩) (.inr ⟨_,_,rfl⟩) (.inr ⟨_,_,rfl⟩) (ab1 hu.ul ht.ul hb.ex);rcases hop with⟨rfl,rfl⟩|⟨rfl,rfl⟩;·{exact qm hx hy rfl rfl this.1 rfl};·exact qm hx hy rfl rfl this.2 rfl)|other=>cases hc
theorem nV{n:Int}[hu:eL C t (.int .i64)](hx:un g (S.get C x)= .val (.int .i64 n):=by first|exact rfl|exact cY):bU C f call S g ⟨some d, .makeInterface t x,ty,pos,bt,bS⟩=some ⟨[(d,iU t (.code n))],[],[]⟩:=by show rY C _ t (un g (S.get C x))=_;rw[hx];simp[rY,hu.ul,gN,ret,put,iU]
theorem I3{e':TypeId}{cs:List U}[hu:eL C t (.pointer e')](hx:un g (S.get C x)= .bD cs:=by first|exact rfl|exact cY):bU C f call S g ⟨some d, .makeInterface t x,ty,pos,bt,bS⟩=some ⟨[(d, .nn)],[],[]⟩:=by show rY C _ t (un g (S.get C x))=_;rw[hx];simp[rY,hu.ul,nF,ret,put]
def oZ(s:ByteArray):List Int:=s.data.toList.map fun b=>(b.toNat:Int)
theorem ahF{s:ByteArray}{dT:TypeDesc}{el:TypeId}[h1:eL C T dT][h2:eL C dn (.slice el)][h3:eL C el (.int .u8)](hx:un g (S.get C x)= .val (.string s):=by first|exact rfl|exact cY):bU C f call S g ⟨some d, .convert T dn x,ty,pos,bt,bS⟩=some ⟨[(d, .sl ((oZ s).map fun n=>[.val (.int .u8 n)]))],[],[]⟩:=by show uM C _ T dn (un g (S.get C x))=_;have hb:wI C T dn=true:=by{simp[wI,h1.ul,h2.ul,h3.ul]};rw[hx];simp[uM,hb,HO,ret,put,DS,oZ,List.map_map,Function.comp]
def qQ(s:ByteArray):U:= .val (.string s)
theorem Tr{α:Type}{c:α->U}{m:Nat}{q:List α}[ha:eK C T true m](hx:un g (S.get C x)= .bD (q.map c):=by exact rfl)(hl:q.length=m:=by exact rfl):bU C f call S g ⟨some d, .load T x,ty,pos,bt,bS⟩=some ⟨[(d, .agg (q.map c))],[],[]⟩:=by show mZ C S _ T (un g (S.get C x))=_;have ht:List.take q.length (q.map c)=q.map c:=by{rw[<-List.length_map c];exact List.take_length};simp[mZ,ha.mw,ha.sz,hx,<-hl,kH,ht]
theorem Tq{α:Type}{c:α->U}{el:TypeId}{len:Nat}{i:Int}{r:α}{q:List α}(hi:idx q i=some r)[hu:eL C T (.array len el)][hs:eK C el false 1](hx:un g (S.get C x)= .agg (q.map c):=by first|exact rfl|exact cY)(hc:∀x,(c x).cell=true:=by exact fun _=>rfl)(hy:un g (S.get C y)= .val (.int k i):=by first|exact rfl|exact cY)(hl:q.length=len:=by exact rfl):bU C f call S g ⟨some d, .index T x y,ty,pos,bt,bS⟩=some ⟨[(d,c r)],[],[]⟩:=by show wP C _ T (un g (S.get C x)) (fA (un g (S.get C y)))=_;have hb:=MB hi;have hn:=vi hi;subst hl;have hlt:i.toNat<q.length:=by{omega};have e1:((q.map c).drop (i.toNat*1)).take 1=[c r]:=by{have:q[i.toNat]=r:=by{rw[List.getElem?_eq_getElem hlt]at hn;simpa using hn};rw[Nat.mul_one,List.drop_eq_getElem_cons (by simpa using hlt)];simp[this]};simp only[hx,hy,fA,wP,hu.ul,hs.sz,hs.mw];rw[if_pos ⟨hb.1,hb.2,by simp;omega⟩,e1];simp[kH,put]
end
end Go.Ab
