import Derived.Test.YtbbhbdlljfffdaaGreatDoorAbV4
import Derived.Lib.Strings
import Derived.Lib.Bytealg
import Derived.Lib.Index
import Derived.Lib.IndexMore
import Derived.Lib.Join
open BitVec renaming ofInt→Ha
open Option renaming map_some→Do,bind_some→GT
open Option.some renaming injEq→AC,inj→GE
set_option linter.all false
namespace Go.Ab
open Go
def F7(k:IntKind)(a b:Int):Option Int:=if b=0 then none else some (k.wrap (a.tdiv b))
def KF(k:IntKind)(a b:Int):Int:=k.wrap ((Ha k.bits a|||Ha k.bits b).toNat:Nat)
def Gl(k:IntKind)(a n:Int):Option Int:=if n<0 then none else some (k.wrap (a*2^(min n.toNat k.bits)))
section
variable{C:aG}{f:FuncId}{call:fL}{S:ah}{g:Bool}
variable{d:Nat}{ty:TypeId}{pos:String}{aV:Array Edge}{bB:Option (Nat×Bool)}{v v':U}
variable{x y z:Operand}{k k':IntKind}{a b:Int}{T aJ:TypeId}
theorem XA{P:Program}{r:Int}(h:F7 k a b=some r):eS P .quo T x y (.int k a) (.int k b)=some (.int k r):=by unfold F7 at h;split at h;·{cases h};·rename_i h0;obtain rfl:=GE h;simp[eS,eqGuard,binOp,Op.intDiv,cZ,bind,Sem.bind,pure,h0]
theorem afy{r:Int}(h:F7 k a b=some r)(hx:un g (S.get C x)= .val (.int k a):=by first|exact rfl|exact cp)(hy:un g (S.get C y)= .val (.int k b):=by first|exact rfl|exact cp):bA C f call S g ⟨some d, .binOp .quo T x y aJ,ty,pos,aV,bB⟩=some ⟨[(d, .val (.int k r))],[],[]⟩:=qg (XA h) rfl hx hy
theorem afw(hx:un g (S.get C x)= .val (.int k a):=by first|exact rfl|exact cp)(hy:un g (S.get C y)= .val (.int k b):=by first|exact rfl|exact cp):bA C f call S g ⟨some d, .binOp .or T x y aJ,ty,pos,aV,bB⟩=some ⟨[(d, .val (.int k (KF k a b)))],[],[]⟩:=qg (by simp[eS,eqGuard,binOp,Op.intBits,cZ,bind,Sem.bind,pure,KF]) rfl hx hy
theorem Rs{r:Int}(h:Gl k a b=some r)(hx:un g (S.get C x)= .val (.int k a):=by first|exact rfl|exact cp)(hy:un g (S.get C y)= .val (.int k' b):=by first|exact rfl|exact cp):bA C f call S g ⟨some d, .binOp .shl T x y aJ,ty,pos,aV,bB⟩=some ⟨[(d, .val (.int k r))],[],[]⟩:=by refine n4 hx hy rfl rfl ?_ rfl;unfold Gl at h;split at h;·{cases h};·rename_i h0;obtain rfl:=GE h;simp[eS,eqGuard,binOp,Op.shift,cZ,bind,Sem.bind,pure,h0]
theorem Rr(hx:un g (S.get C x)= .val (.int k a):=by first|exact rfl|exact cp):bA C f call S g ⟨some d, .unOp .neg T x,ty,pos,aV,bB⟩=some ⟨[(d, .val (.int k (k.wrap (0-a))))],[],[]⟩:=afA (by simp[Dx,Op.unary,Op.intArith,cZ,pure]) rfl hx
theorem qe{dT:TypeDesc}[h1:c9 C T dT][h2:c9 C aJ (.int k')](hx:un g (S.get C x)= .val (.int k a):=by first|exact rfl|exact cp):bA C f call S g ⟨some d, .convert T aJ x,ty,pos,aV,bB⟩=some ⟨[(d, .val (.int k' (k'.wrap a)))],[],[]⟩:=by refine afr ?_ hx rfl (by unfold tr;rw[h2.ul];cases C.P.underlying T<;>rfl);unfold Ej convert;rw[gS,n6 h1.ul,GT,gS,n6 h2.ul,GT];cases dT<;>rfl
end
end Go.Ab
namespace Go.Ab
open Go
class iW where m:Int
theorem ad3{w w':World}(h:RowKit.Below w.heap.size w w')(F:Nat→Prop):Kept w w' F:=⟨h.size,fun b hb _=>h.block b hb,h.os,h.output,fun a ha=>h.frozen ha,tq fun b hb=>h.block b hb⟩
theorem To{w:World}{I:Nat→Prop}{β:Id→Option Loc}:∀{us vs:List Value}{fp:List Nat},av w I β fp vs (us.map .val)→vs=us∧fp=[]|[],vs,fp,h=>by{have:=h.length;simp only[List.map_nil,List.length_nil,List.length_eq_zero_iff]at this;subst this;generalize hx:(U.agg ([].map U.val))=x at h;cases h with|nil=>(exact⟨rfl,rfl⟩)|_=>cases hx}|u::us,vs,fp,h=>by obtain⟨f1,f2,v',vs',e1,e,k1,k2⟩:=av.cons_inv h;subst e;obtain⟨ep,gO⟩:=To k2;have ko:=k1.gd;have:f1=[]:=by{generalize hx:U.val u=x at k1;cases k1<;>first|rfl|cases hx};subst this ep gO;simp_all
section
variable{C:aG}{f:FuncId}{fn:Func}{c:Code}
theorem Di(hf:C.P.funcs[f]? =some fn)(hb:fn.body=some c)(hl:C.cv f=[]){us:List Value}{v:Value}(hv:eB v=true)(h:∀w cJ,(∀g cs,C.cA g=some cs→R w cJ bR [] (.pointer (some ⟨g,0,none⟩)) (.aD cs))→Calls C.P f ⟨us⟩ w fun e w'=>e= .returned v∧RowKit.Below w.heap.size w w'):pq C f (us.map .val) (.val v,[]):=by intro w cJ fp vs hr hnd hI fN hg;obtain⟨rfl,rfl⟩:=To hr;refine .inl ⟨fn,c,hf,hb,(h w cJ hg).mono fun e w'⟨he,hk⟩=>⟨v,he,⟨ad3 hk _,fun _=>False,[], ?_,List.nodup_nil,fun b hb=>(by cases hb),fun b hb=>hb.elim⟩⟩⟩;rw[hl];exact .cons (f1:=[]) (f2:=[]) (.val hv) .nil
theorem Pm{w:World}{I:Nat→Prop}{g:Nat}{v:Value}{cs:List U}(h:R w I bR [] (.pointer (some ⟨g,0,none⟩)) (.aD (.val v::cs))):w.cell? ⟨g,0,none⟩=some v:=by obtain⟨_,b,p,vs,hv,_,hc,hr⟩:=h.sZ;obtain⟨f1,f2,v',vs',e1,e,k1,k2⟩:=av.cons_inv hr;subst e;have ko:=k1.gd;simp only[Value.pointer.injEq,AC,Addr.mk.injEq]at hv;obtain⟨rfl,rfl,_⟩:=hv;have:=hc 0 v' rfl;rw[Nat.zero_add]at this;rw[this,ko.2]
end
/-! ### As plain data -/
def vW(s p:ByteArray):Option Bool:=some (Lib.hasPrefix s.data.toList p.data.toList)
def Cb(s:ByteArray)(c:Int):Option Int:=some (Lib.indexByte s.data.toList c.toNat.toUInt8)
def Cc(s p:ByteArray):Option Int:=if s.size<4294967281 then some (Lib.index s.data.toList p.data.toList)else none
def AQ(s p:ByteArray):Option Bool:=if s.size<4294967281 then some (Lib.contains s.data.toList p.data.toList)else none
def yb(s:ByteArray):Option ByteArray:=if s.size≤281474976710656 then some s else none
/-! ### As abstract values -/
def aiC:Rows→Option (List ByteArray)|[]=>some []|[.val (.string s)]::l=>(aiC l).map (s::·)|_=>none
def vV:List U→Option (U×List U)|[.val (.string s), .val (.string p)]=>(vW s p).map fun r=>(.val (.bool r),[])|_=>none
def wJ:List U→Option (U×List U)|[.val (.string s), .val (.int .u8 c)]=>(Cb s c).map fun r=>(.val (.int .i64 r),[])|_=>none
def wI:List U→Option (U×List U)|[.val (.string s), .val (.string p)]=>(Cc s p).map fun r=>(.val (.int .i64 r),[])|_=>none
def vB:List U→Option (U×List U)|[.val (.string s), .val (.string p)]=>(AQ s p).map fun r=>(.val (.bool r),[])|_=>none
def vA:List U→Option (U×List U)|[.val (.string s)]=>(yb s).map fun r=>(.val (.string r),[])|_=>none
theorem abJ{s p:ByteArray}{r:Bool}(h:vW s p=some r):vV [.val (.string s), .val (.string p)]=some (.val (.bool r),[]):=by simp[vV,h]
theorem adS{s:ByteArray}{c:Int}{r:Int}(h:Cb s c=some r):wJ [.val (.string s), .val (.int .u8 c)]=some (.val (.int .i64 r),[]):=by simp[wJ,h]
theorem adR{s p:ByteArray}{r:Int}(h:Cc s p=some r):wI [.val (.string s), .val (.string p)]=some (.val (.int .i64 r),[]):=by simp[wI,h]
theorem YM{s p:ByteArray}{r:Bool}(h:AQ s p=some r):vB [.val (.string s), .val (.string p)]=some (.val (.bool r),[]):=by simp[vB,h]
theorem YC{s:ByteArray}{r:ByteArray}(h:yb s=some r):vA [.val (.string s)]=some (.val (.string r),[]):=by simp[vA,h]
section
variable{C:aG}{f:FuncId}{fn:Func}{c:Code}{args:List U}{r:U×List U}
theorem abK(hf:C.P.funcs[f]? =some fn)(hb:fn.body=some c)(hl:C.cv f=[])(H:∀(s p:ByteArray)(w:World),Calls C.P f #[.string s, .string p] w fun e w'=>e= .returned (.bool (Lib.hasPrefix s.data.toList p.data.toList))∧w'=w){g:List U→Option (U×List U)}(hg:g=vV)(h:g args=some r):pq C f args r:=by subst hg;unfold vV at h;split at h;·{rename_i s p;simp only[vW,Do,AC]at h;subst h;exact Di (us:=[.string s, .string p]) hf hb hl rfl fun w _ _=>(H s p w).mono fun e w'⟨h1,h2⟩=>⟨h1,h2▸RowKit.Below.refl _ _⟩};·cases h
theorem adT(hf:C.P.funcs[f]? =some fn)(hb:fn.body=some c)(hl:C.cv f=[])(H:∀(s:ByteArray)(c:Int)(w:World),Calls C.P f #[.string s, .int .u8 c] w fun e w'=>e= .returned (.int .i64 (Lib.indexByte s.data.toList c.toNat.toUInt8))∧w'=w){g:List U→Option (U×List U)}(hg:g=wJ)(h:g args=some r):pq C f args r:=by subst hg;unfold wJ at h;split at h;·{rename_i s p;simp only[Cb,Do,AC]at h;subst h;exact Di (us:=[.string s, .int .u8 p]) hf hb hl rfl fun w _ _=>(H s p w).mono fun e w'⟨h1,h2⟩=>⟨h1,h2▸RowKit.Below.refl _ _⟩};·cases h
theorem adU{k:Nat}{m:Int}{cs:List U}(hf:C.P.funcs[f]? =some fn)(hb:fn.body=some c)(hl:C.cv f=[])(v8:C.cA k=some (.val (.int .i64 m)::cs))(H:∀(s p:ByteArray)(m:Int)(w:World),s.size<4294967281→w.cell? ⟨k,0,none⟩=some (.int .i64 m)→Calls C.P f #[.string s, .string p] w fun e w'=>e= .returned (.int .i64 (Lib.index s.data.toList p.data.toList))∧w'=w){g:List U→Option (U×List U)}(hg:g=wI)(h:g args=some r):pq C f args r:=by subst hg;unfold wI at h;split at h;·{rename_i s p;unfold Cc at h;split at h;·{rename_i hs;simp only[Do,AC]at h;subst h;exact Di (us:=[.string s, .string p]) hf hb hl rfl fun w _ hg=>(H s p m w hs (Pm (hg _ _ v8))).mono fun e w'⟨h1,h2⟩=>⟨h1,h2▸RowKit.Below.refl _ _⟩};·cases h};·cases h
theorem YN{k:Nat}{m:Int}{cs:List U}(hf:C.P.funcs[f]? =some fn)(hb:fn.body=some c)(hl:C.cv f=[])(v8:C.cA k=some (.val (.int .i64 m)::cs))(H:∀(s p:ByteArray)(m:Int)(w:World),s.size<4294967281→w.cell? ⟨k,0,none⟩=some (.int .i64 m)→Calls C.P f #[.string s, .string p] w fun e w'=>e= .returned (.bool (Lib.contains s.data.toList p.data.toList))∧w'=w){g:List U→Option (U×List U)}(hg:g=vB)(h:g args=some r):pq C f args r:=by subst hg;unfold vB at h;split at h;·{rename_i s p;unfold AQ at h;split at h;·{rename_i hs;simp only[Do,AC]at h;subst h;exact Di (us:=[.string s, .string p]) hf hb hl rfl fun w _ hg=>(H s p m w hs (Pm (hg _ _ v8))).mono fun e w'⟨h1,h2⟩=>⟨h1,h2▸RowKit.Below.refl _ _⟩};·cases h};·cases h
theorem YD(hf:C.P.funcs[f]? =some fn)(hb:fn.body=some c)(hl:C.cv f=[])(H:∀(s:ByteArray)(w:World),s.size≤281474976710656→Calls C.P f #[.string s] w fun e w'=>e= .returned (.string s)∧RowKit.Below w.heap.size w w'){g:List U→Option (U×List U)}(hg:g=vA)(h:g args=some r):pq C f args r:=by subst hg;unfold vA at h;split at h;·{rename_i s;unfold yb at h;split at h;·{rename_i hs;simp only[Do,AC]at h;subst h;exact Di (us:=[.string s]) hf hb hl rfl fun w _ _=>H s w hs};·cases h};·cases h
end
end Go.Ab
namespace Go.Ab
open Go
def dj.isNil:dj→Bool| .nil=>true|_=>false
def dj.y7:dj→Int→Option Bool| .nil,_=>some false| .code m,n=>some (m==n)| .other,_=>none
def N3(P:Program)(t:TypeId):Bool:=match P.info? t with|some i=>i.comparable|none=>false
class DD(C:aG)(t:TypeId):Prop where cb:N3 C.P t=true
theorem DD.ex{C:aG}{t:TypeId}(h:DD C t):∃i,C.P.info? t=some i∧i.comparable=true:=by have:=h.cb;unfold N3 at this;split at this;·{exact⟨_,‹_›,this⟩};·cases this
section
variable{C:aG}{f:FuncId}{call:fL}{S:ah}{g:Bool}
variable{d:Nat}{ty:TypeId}{pos:String}{aV:Array Edge}{bB:Option (Nat×Bool)}{v v':U}
variable{x y z:Operand}{k k':IntKind}{a b:Int}{T aJ t:TypeId}{e:dj}{ms:Array (String×TypeId)}
theorem Zm{tx:TypeId}{vx:Value}(hu:C.P.underlying T=some (.interface ms)):cZ C.P (Op.equal T (.iface tx vx) .nilIface)=some false:=by unfold Op.equal Op.maxDepth;have:∀d,cZ C.P (Op.equalIn (d+1) T (.iface tx vx) .nilIface)=some false:=fun d=>by{simp[Op.equalIn,gS,n6 hu,n5]};exact this 9999
theorem Zo(hu:C.P.underlying T=some (.interface ms)):cZ C.P (Op.equal T .nilIface .nilIface)=some true:=by unfold Op.equal Op.maxDepth;have:∀d,cZ C.P (Op.equalIn (d+1) T .nilIface .nilIface)=some true:=fun d=>by{simp[Op.equalIn,gS,n6 hu,n5]};exact this 9999
theorem Zn{tx:TypeId}{vx:Value}(hu:C.P.underlying T=some (.interface ms)):cZ C.P (Op.equal T .nilIface (.iface tx vx))=some false:=by unfold Op.equal Op.maxDepth;have:∀d,cZ C.P (Op.equalIn (d+1) T .nilIface (.iface tx vx))=some false:=fun d=>by{simp[Op.equalIn,gS,n6 hu,n5]};exact this 9999
theorem Zl{m n:Int}(hu:C.P.underlying T=some (.interface ms))(ht:C.P.underlying t=some (.int .i64))(hc:∃i,C.P.info? t=some i∧i.comparable=true):cZ C.P (Op.equal T (.iface t (.int .i64 m)) (.iface t (.int .i64 n)))=some (m==n):=by obtain⟨i,hi,hc⟩:=hc;unfold Op.equal Op.maxDepth;have:∀d,cZ C.P (Op.equalIn (d+1+1) T (.iface t (.int .i64 m)) (.iface t (.int .i64 n)))=some (m==n):=fun d=>by{have JA:cZ C.P (typeInfo t)=some i:=by{unfold typeInfo;rw[gS];show(some C.P).bind _=_;simp[hi,n5]};simp[Op.equalIn,gS,n6 hu,n6 ht,n5,JA,hc]};exact this 9998
def zo:Operand:= .const .nilIface
theorem D9{eP gU:Value}{r:Bool}(hk:(∃tx vx,eP= .iface tx vx)∨(∃tx vx,gU= .iface tx vx)∨y= .const .nilIface)(hb:eP= .nilIface∨∃tx vx,eP= .iface tx vx)(hb':gU= .nilIface∨∃tx vx,gU= .iface tx vx)(h:cZ C.P (Op.equal T eP gU)=some r):eS C.P .eql T x y eP gU=some (.bool r)∧eS C.P .neq T x y eP gU=some (.bool (!r)):=by have hg:∀op,cZ C.P (eqGuard op T x y eP gU)=some ():=fun op=>by{rcases hb with rfl|⟨_,_,rfl⟩<;>rcases hb' with rfl|⟨_,_,rfl⟩;·{rcases hk with⟨_,_,h⟩|⟨_,_,h⟩|rfl;·{cases h};·{cases h};·cases op<;>cases x<;>simp[eqGuard,n5,cZ,pure]};·{cases op<;>rfl};·{cases op<;>rfl};·cases op<;>rfl};have E8:binOp .eql T eP gU=(do pure (.bool (←Op.equal T eP gU)):Sem Value):=by{rcases hb with rfl|⟨_,_,rfl⟩<;>rcases hb' with rfl|⟨_,_,rfl⟩<;>rfl};have BO:binOp .neq T eP gU=(do pure (.bool (!(←Op.equal T eP gU))):Sem Value):=by{rcases hb with rfl|⟨_,_,rfl⟩<;>rcases hb' with rfl|⟨_,_,rfl⟩<;>rfl};constructor;·{unfold eS;rw[gS,hg,GT,E8,gS,h];rfl};·unfold eS;rw[gS,hg,GT,BO,gS,h];rfl
theorem Kv{op:BinOp}{r:Bool}[hu:c9 C T (.interface ms)](hx:un g (S.get C x)=gu t e:=by first|exact rfl|exact cp)(hy:y=zo:=by exact rfl)(hop:(op= .eql∧r=e.isNil)∨(op= .neq∧r= !e.isNil):=by first|exact .inl ⟨rfl,rfl⟩|exact .inr ⟨rfl,rfl⟩):bA C f call S g ⟨some d, .binOp op T x y aJ,ty,pos,aV,bB⟩=some ⟨[(d, .val (.bool r))],[],[]⟩:=by subst hy;have hy:un g (S.get C zo)= .val .nilIface:=by{cases g<;>rfl};cases e with|nil=>(have:=D9 (C:=C) (T:=T) (x:=x) (y:=zo) (eP:= .nilIface) (gU:= .nilIface) (.inr (.inr rfl)) (.inl rfl) (.inl rfl) (Zo hu.ul);rcases hop with⟨rfl,rfl⟩|⟨rfl,rfl⟩;·{exact n4 hx hy rfl rfl this.1 rfl};·exact n4 hx hy rfl rfl this.2 rfl)|code n=>(have:=D9 (C:=C) (T:=T) (x:=x) (y:=zo) (eP:= .iface t (.int .i64 n)) (gU:= .nilIface) (.inl ⟨_,_,rfl⟩) (.inr ⟨_,_,rfl⟩) (.inl rfl) (Zm hu.ul);rcases hop with⟨rfl,rfl⟩|⟨rfl,rfl⟩;·{exact n4 hx hy rfl rfl this.1 rfl};·exact n4 hx hy rfl rfl this.2 rfl)|other=>show r4 C _ op T x zo (un g (S.get C x)) (un g (S.get C zo))=_;rw[hx,hy];rcases hop with⟨rfl,rfl⟩|⟨rfl,rfl⟩<;>simp[r4,gu,ob,hu.ul,Kq,dj.isNil,ret,put]
theorem CC{op:BinOp}{n:Int}{dX r:Bool}(hc:e.y7 n=some dX)[hu:c9 C T (.interface ms)][ht:c9 C t (.int .i64)][hb:DD C t](hx:un g (S.get C x)=gu t e:=by first|exact rfl|exact cp)(hy:un g (S.get C y)=gu t (.code n):=by first|exact rfl|exact cp)(hop:(op= .eql∧r=dX)∨(op= .neq∧r= !dX):=by first|exact .inl ⟨rfl,rfl⟩|exact .inr ⟨rfl,rfl⟩):bA C f call S g ⟨some d, .binOp op T x y aJ,ty,pos,aV,bB⟩=some ⟨[(d, .val (.bool r))],[],[]⟩:=by cases e with|nil=>(obtain rfl:false=dX:=GE hc;have:=D9 (C:=C) (T:=T) (x:=x) (y:=y) (eP:= .nilIface) (gU:= .iface t (.int .i64 n)) (.inr (.inl ⟨_,_,rfl⟩)) (.inl rfl) (.inr ⟨_,_,rfl⟩) (Zn hu.ul);rcases hop with⟨rfl,rfl⟩|⟨rfl,rfl⟩;·{exact n4 hx hy rfl rfl this.1 rfl};·exact n4 hx hy rfl rfl this.2 rfl)|code m=>(obtain rfl:(m==n)=dX:=GE hc;have:=D9 (C:=C) (T:=T) (x:=x) (y:=y) (eP:= .iface t (.int .i64 m)) (gU:= .iface t (.int .i64 n)) (.inl ⟨_,_,rfl⟩) (.inr ⟨_,_,rfl⟩) (.inr ⟨_,_,rfl⟩) (Zl hu.ul ht.ul hb.ex);rcases hop with⟨rfl,rfl⟩|⟨rfl,rfl⟩;·{exact n4 hx hy rfl rfl this.1 rfl};·exact n4 hx hy rfl rfl this.2 rfl)|other=>cases hc
theorem lS{n:Int}[hu:c9 C t (.int .i64)](hx:un g (S.get C x)= .val (.int .i64 n):=by first|exact rfl|exact cp):bA C f call S g ⟨some d, .makeInterface t x,ty,pos,aV,bB⟩=some ⟨[(d,gu t (.code n))],[],[]⟩:=by show tF C _ t (un g (S.get C x))=_;rw[hx];simp[tF,hu.ul,eB,ret,put,gu]
theorem FI{e':TypeId}{cs:List U}[hu:c9 C t (.pointer e')](hx:un g (S.get C x)= .aD cs:=by first|exact rfl|exact cp):bA C f call S g ⟨some d, .makeInterface t x,ty,pos,aV,bB⟩=some ⟨[(d, .nn)],[],[]⟩:=by show tF C _ t (un g (S.get C x))=_;rw[hx];simp[tF,hu.ul,ret,put]
def ow(s:ByteArray):List Int:=s.data.toList.map fun b=>(b.toNat:Int)
theorem afq{s:ByteArray}{dT:TypeDesc}{el:TypeId}[h1:c9 C T dT][h2:c9 C aJ (.slice el)][h3:c9 C el (.int .u8)](hx:un g (S.get C x)= .val (.string s):=by first|exact rfl|exact cp):bA C f call S g ⟨some d, .convert T aJ x,ty,pos,aV,bB⟩=some ⟨[(d, .sl ((ow s).map fun n=>[.val (.int .u8 n)]))],[],[]⟩:=by show r6 C _ T aJ (un g (S.get C x))=_;have hb:tr C T aJ=true:=by{simp[tr,h1.ul,h2.ul,h3.ul]};rw[hx];simp[r6,hb,Eo,ret,put,AL,ow,List.map_map,Function.comp]
def oH(s:ByteArray):U:= .val (.string s)
theorem Rm{α:Type}{c:α→U}{m:Nat}{q:List α}[ha:cU C T true m](hx:un g (S.get C x)= .aD (q.map c):=by exact rfl)(hl:q.length=m:=by exact rfl):bA C f call S g ⟨some d, .load T x,ty,pos,aV,bB⟩=some ⟨[(d, .agg (q.map c))],[],[]⟩:=by show kY C S _ T (un g (S.get C x))=_;have ht:List.take q.length (q.map c)=q.map c:=by{rw[←List.length_map c];exact List.take_length};simp[kY,ha.jP,ha.sz,hx,←hl,iL,ht]
theorem Rk{α:Type}{c:α→U}{el:TypeId}{len:Nat}{i:Int}{r:α}{q:List α}(hi:idx q i=some r)[hu:c9 C T (.array len el)][hs:cU C el false 1](hx:un g (S.get C x)= .agg (q.map c):=by first|exact rfl|exact cp)(hc:∀x,(c x).cell=true:=by exact fun _=>rfl)(hy:un g (S.get C y)= .val (.int k i):=by first|exact rfl|exact cp)(hl:q.length=len:=by exact rfl):bA C f call S g ⟨some d, .index T x y,ty,pos,aV,bB⟩=some ⟨[(d,c r)],[],[]⟩:=by show tG C _ T (un g (S.get C x)) (eo (un g (S.get C y)))=_;have hb:=y2 hi;have hn:=jY hi;subst hl;have hlt:i.toNat<q.length:=by{omega};have e1:((q.map c).drop (i.toNat*1)).take 1=[c r]:=by{have:q[i.toNat]=r:=by{rw[List.getElem?_eq_getElem hlt]at hn;simpa using hn};rw[Nat.mul_one,List.drop_eq_getElem_cons (by simpa using hlt)];simp[this]};simp only[hx,hy,eo,tG,hu.ul,hs.sz,hs.jP];rw[if_pos ⟨hb.1,hb.2,by simp;omega⟩,e1];simp[iL,put]
end
end Go.Ab
