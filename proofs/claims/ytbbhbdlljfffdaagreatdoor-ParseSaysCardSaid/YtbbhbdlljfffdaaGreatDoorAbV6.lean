import Derived.Test.YtbbhbdlljfffdaaGreatDoorAbV7
import Derived.Lib.IndexMore
import Derived.Lib.Join
open BitVec renaming ofInt->Ha
open Option renaming map_some->Do,bind_some->GT
open Option.some renaming injEq->AC,inj->GE
set_option linter.all false
namespace Go.Ab
open Go
def rX(k:IntKind)(a b:Int):Option Int:=if b=0 then none else some (k.wrap (a.tdiv b))
def Gc(k:IntKind)(a b:Int):Int:=k.wrap ((Ha k.bits a|||Ha k.bits b).toNat:Nat)
def AK(k:IntKind)(a n:Int):Option Int:=if n<0 then none else some (k.wrap (a*2^(min n.toNat k.bits)))
section
variable{C:ax}{f:FuncId}{call:eZ}{S:ah}{g:Bool}
variable{d:Nat}{ty:TypeId}{pos:String}{aG:Array Edge}{bk:Option (Nat×Bool)}{v v':U}
variable{x y z:Operand}{k k':IntKind}{a b:Int}{T cU:TypeId}
theorem Wr{P:Program}{r:Int}(h:rX k a b=some r):er P .quo T x y (.int k a) (.int k b)=some (.int k r):=by unfold rX at h;split at h;·{cases h};·rename_i h0;obtain rfl:=GE h;simp[er,eqGuard,binOp,Op.intDiv,cQ,bind,Sem.bind,pure,h0]
theorem Qr{r:Int}(h:rX k a b=some r)(hx:un g (S.get C x)= .val (.int k a):=by first|exact rfl|exact ck)(hy:un g (S.get C y)= .val (.int k b):=by first|exact rfl|exact ck):bp C f call S g ⟨some d, .binOp .quo T x y cU,ty,pos,aG,bk⟩=some ⟨[(d, .val (.int k r))],[],[]⟩:=qy (Wr h) rfl hx hy
theorem adW(hx:un g (S.get C x)= .val (.int k a):=by first|exact rfl|exact ck)(hy:un g (S.get C y)= .val (.int k b):=by first|exact rfl|exact ck):bp C f call S g ⟨some d, .binOp .or T x y cU,ty,pos,aG,bk⟩=some ⟨[(d, .val (.int k (Gc k a b)))],[],[]⟩:=qy (by simp[er,eqGuard,binOp,Op.intBits,cQ,bind,Sem.bind,pure,Gc]) rfl hx hy
theorem Qs{r:Int}(h:AK k a b=some r)(hx:un g (S.get C x)= .val (.int k a):=by first|exact rfl|exact ck)(hy:un g (S.get C y)= .val (.int k' b):=by first|exact rfl|exact ck):bp C f call S g ⟨some d, .binOp .shl T x y cU,ty,pos,aG,bk⟩=some ⟨[(d, .val (.int k r))],[],[]⟩:=by refine oz hx hy rfl rfl ?_ rfl;unfold AK at h;split at h;·{cases h};·rename_i h0;obtain rfl:=GE h;simp[er,eqGuard,binOp,Op.shift,cQ,bind,Sem.bind,pure,h0]
theorem Qq(hx:un g (S.get C x)= .val (.int k a):=by first|exact rfl|exact ck):bp C f call S g ⟨some d, .unOp .neg T x,ty,pos,aG,bk⟩=some ⟨[(d, .val (.int k (k.wrap (0-a))))],[],[]⟩:=adX (by simp[D1,Op.unary,Op.intArith,cQ,pure]) rfl hx
theorem l9{dT:TypeDesc}[h1:de C T dT][h2:de C cU (.int k')](hx:un g (S.get C x)= .val (.int k a):=by first|exact rfl|exact ck):bp C f call S g ⟨some d, .convert T cU x,ty,pos,aG,bk⟩=some ⟨[(d, .val (.int k' (k'.wrap a)))],[],[]⟩:=by refine adT ?_ hx rfl (by unfold uz;rw[h2.ul];cases C.P.underlying T<;>rfl);unfold EO convert;rw[ga,oD h1.ul,GT,ga,oD h2.ul,GT];cases dT<;>rfl
end
open Go
class kV where m:Int
theorem acu{w w':World}(h:RowKit.Below w.heap.size w w')(F:Nat->Prop):Kept w w' F:=⟨h.size,fun b hb _=>h.block b hb,h.os,h.output,fun a ha=>h.frozen ha,uy fun b hb=>h.block b hb⟩
theorem SC{w:World}{I:Nat->Prop}{β:Id->Option Loc}:∀{us vs:List Value}{fp:List Nat},an w I β fp vs (us.map .val)->vs=us∧fp=[]|[],vs,fp,h=>by{have:=h.length;simp only[List.map_nil,List.length_nil,List.length_eq_zero_iff]at this;subst this;generalize hx:(U.agg ([].map U.val))=x at h;cases h with|nil=>(exact⟨rfl,rfl⟩)|_=>cases hx}|u::us,vs,fp,h=>by obtain⟨f1,f2,v',vs',e1,e,k1,k2⟩:=an.cons_inv h;subst e;obtain⟨cC,iY⟩:=SC k2;have lf:=k1.fG;have:f1=[]:=by{generalize hx:U.val u=x at k1;cases k1<;>first|rfl|cases hx};subst this cC iY;simp_all
section
variable{C:ax}{f:FuncId}{fn:Func}{c:Code}
theorem DH(hf:C.P.funcs[f]? =some fn)(hb:fn.body=some c)(hl:C.bX f=[]){us:List Value}{v:Value}(hv:dN v=true)(h:∀w cv,(∀g cs,C.bS g=some cs->R w cv br [] (.pointer (some ⟨g,0,none⟩)) (.aP cs))->Calls C.P f ⟨us⟩ w fun e w'=>e= .returned v∧RowKit.Below w.heap.size w w'):pZ C f (us.map .val) (.val v,[]):=by intro w cv fp vs hr hnd hI eL hg;obtain⟨rfl,rfl⟩:=SC hr;refine .inl ⟨fn,c,hf,hb,(h w cv hg).mono fun e w'⟨he,hk⟩=>⟨v,he,⟨acu hk _,fun _=>False,[], ?_,List.nodup_nil,fun b hb=>(by cases hb),fun b hb=>hb.elim⟩⟩⟩;rw[hl];exact .cons (f1:=[]) (f2:=[]) (.val hv) .nil
theorem Og{w:World}{I:Nat->Prop}{g:Nat}{v:Value}{cs:List U}(h:R w I br [] (.pointer (some ⟨g,0,none⟩)) (.aP (.val v::cs))):w.cell? ⟨g,0,none⟩=some v:=by obtain⟨_,b,p,vs,hv,_,hc,hr⟩:=h.se;obtain⟨f1,f2,v',vs',e1,e,k1,k2⟩:=an.cons_inv hr;subst e;have lf:=k1.fG;simp only[Value.pointer.injEq,AC,Addr.mk.injEq]at hv;obtain⟨rfl,rfl,_⟩:=hv;have:=hc 0 v' rfl;rw[Nat.zero_add]at this;rw[this,lf.2]
end
/-! ### As plain data -/
def qi(s p:ByteArray):Option Bool:=some (Lib.hasPrefix s.data.toList p.data.toList)
def zV(s:ByteArray)(c:Int):Option Int:=some (Lib.indexByte s.data.toList c.toNat.toUInt8)
def uY(s p:ByteArray):Option Int:=if s.size<4294967281 then some (Lib.index s.data.toList p.data.toList)else none
def v8(s p:ByteArray):Option Bool:=if s.size<4294967281 then some (Lib.contains s.data.toList p.data.toList)else none
def uB(s:ByteArray):Option ByteArray:=if s.size<=281474976710656 then some s else none
/-! ### As abstract values -/
def ahK:Rows->Option (List ByteArray)|[]=>some []|[.val (.string s)]::l=>(ahK l).map (s::·)|_=>none
def wH:List U->Option (U×List U)|[.val (.string s), .val (.string p)]=>(qi s p).map fun r=>(.val (.bool r),[])|_=>none
def xb:List U->Option (U×List U)|[.val (.string s), .val (.int .u8 c)]=>(zV s c).map fun r=>(.val (.int .i64 r),[])|_=>none
def w9:List U->Option (U×List U)|[.val (.string s), .val (.string p)]=>(uY s p).map fun r=>(.val (.int .i64 r),[])|_=>none
def v7:List U->Option (U×List U)|[.val (.string s), .val (.string p)]=>(v8 s p).map fun r=>(.val (.bool r),[])|_=>none
def vY:List U->Option (U×List U)|[.val (.string s)]=>(uB s).map fun r=>(.val (.string r),[])|_=>none
theorem aan{s p:ByteArray}{r:Bool}(h:qi s p=some r):wH [.val (.string s), .val (.string p)]=some (.val (.bool r),[]):=by simp[wH,h]
theorem ace{s:ByteArray}{c:Int}{r:Int}(h:zV s c=some r):xb [.val (.string s), .val (.int .u8 c)]=some (.val (.int .i64 r),[]):=by simp[xb,h]
theorem acd{s p:ByteArray}{r:Int}(h:uY s p=some r):w9 [.val (.string s), .val (.string p)]=some (.val (.int .i64 r),[]):=by simp[w9,h]
theorem Xy{s p:ByteArray}{r:Bool}(h:v8 s p=some r):v7 [.val (.string s), .val (.string p)]=some (.val (.bool r),[]):=by simp[v7,h]
theorem Xq{s:ByteArray}{r:ByteArray}(h:uB s=some r):vY [.val (.string s)]=some (.val (.string r),[]):=by simp[vY,h]
section
variable{C:ax}{f:FuncId}{fn:Func}{c:Code}{args:List U}{r:U×List U}
theorem aao(hf:C.P.funcs[f]? =some fn)(hb:fn.body=some c)(hl:C.bX f=[])(H:∀(s p:ByteArray)(w:World),Calls C.P f #[.string s, .string p] w fun e w'=>e= .returned (.bool (Lib.hasPrefix s.data.toList p.data.toList))∧w'=w){g:List U->Option (U×List U)}(hg:g=wH)(h:g args=some r):pZ C f args r:=by subst hg;unfold wH at h;split at h;·{rename_i s p;simp only[qi,Do,AC]at h;subst h;exact DH (us:=[.string s, .string p]) hf hb hl rfl fun w _ _=>(H s p w).mono fun e w'⟨h1,h2⟩=>⟨h1,h2▸RowKit.Below.refl _ _⟩};·cases h
theorem acf(hf:C.P.funcs[f]? =some fn)(hb:fn.body=some c)(hl:C.bX f=[])(H:∀(s:ByteArray)(c:Int)(w:World),Calls C.P f #[.string s, .int .u8 c] w fun e w'=>e= .returned (.int .i64 (Lib.indexByte s.data.toList c.toNat.toUInt8))∧w'=w){g:List U->Option (U×List U)}(hg:g=xb)(h:g args=some r):pZ C f args r:=by subst hg;unfold xb at h;split at h;·{rename_i s p;simp only[zV,Do,AC]at h;subst h;exact DH (us:=[.string s, .int .u8 p]) hf hb hl rfl fun w _ _=>(H s p w).mono fun e w'⟨h1,h2⟩=>⟨h1,h2▸RowKit.Below.refl _ _⟩};·cases h
theorem acg{k:Nat}{m:Int}{cs:List U}(hf:C.P.funcs[f]? =some fn)(hb:fn.body=some c)(hl:C.bX f=[])(wK:C.bS k=some (.val (.int .i64 m)::cs))(H:∀(s p:ByteArray)(m:Int)(w:World),s.size<4294967281->w.cell? ⟨k,0,none⟩=some (.int .i64 m)->Calls C.P f #[.string s, .string p] w fun e w'=>e= .returned (.int .i64 (Lib.index s.data.toList p.data.toList))∧w'=w){g:List U->Option (U×List U)}(hg:g=w9)(h:g args=some r):pZ C f args r:=by subst hg;unfold w9 at h;split at h;·{rename_i s p;unfold uY at h;split at h;·{rename_i hs;simp only[Do,AC]at h;subst h;exact DH (us:=[.string s, .string p]) hf hb hl rfl fun w _ hg=>(H s p m w hs (Og (hg _ _ wK))).mono fun e w'⟨h1,h2⟩=>⟨h1,h2▸RowKit.Below.refl _ _⟩};·cases h};·cases h
theorem Xz{k:Nat}{m:Int}{cs:List U}(hf:C.P.funcs[f]? =some fn)(hb:fn.body=some c)(hl:C.bX f=[])(wK:C.bS k=some (.val (.int .i64 m)::cs))(H:∀(s p:ByteArray)(m:Int)(w:World),s.size<4294967281->w.cell? ⟨k,0,none⟩=some (.int .i64 m)->Calls C.P f #[.string s, .string p] w fun e w'=>e= .returned (.bool (Lib.contains s.data.toList p.data.toList))∧w'=w){g:List U->Option (U×List U)}(hg:g=v7)(h:g args=some r):pZ C f args r:=by subst hg;unfold v7 at h;split at h;·{rename_i s p;unfold v8 at h;split at h;·{rename_i hs;simp only[Do,AC]at h;subst h;exact DH (us:=[.string s, .string p]) hf hb hl rfl fun w _ hg=>(H s p m w hs (Og (hg _ _ wK))).mono fun e w'⟨h1,h2⟩=>⟨h1,h2▸RowKit.Below.refl _ _⟩};·cases h};·cases h
theorem Xr(hf:C.P.funcs[f]? =some fn)(hb:fn.body=some c)(hl:C.bX f=[])(H:∀(s:ByteArray)(w:World),s.size<=281474976710656->Calls C.P f #[.string s] w fun e w'=>e= .returned (.string s)∧RowKit.Below w.heap.size w w'){g:List U->Option (U×List U)}(hg:g=vY)(h:g args=some r):pZ C f args r:=by subst hg;unfold vY at h;split at h;·{rename_i s;unfold uB at h;split at h;·{rename_i hs;simp only[Do,AC]at h;subst h;exact DH (us:=[.string s]) hf hb hl rfl fun w _ _=>H s w hs};·cases h};·cases h
end
open Go
def bQ.isNil:bQ->Bool| .nil=>true|_=>false
def bQ.rF:bQ->Int->Option Bool| .nil,_=>some false| .code m,n=>some (m==n)| .other,_=>none
def Nc(P:Program)(t:TypeId):Bool:=match P.info? t with|some i=>i.comparable|none=>false
class Eb(C:ax)(t:TypeId):Prop where cb:Nc C.P t=true
theorem Eb.ex{C:ax}{t:TypeId}(h:Eb C t):∃i,C.P.info? t=some i∧i.comparable=true:=by have:=h.cb;unfold Nc at this;split at this;·{exact⟨_,‹_›,this⟩};·cases this
section
variable{C:ax}{f:FuncId}{call:eZ}{S:ah}{g:Bool}
variable{d:Nat}{ty:TypeId}{pos:String}{aG:Array Edge}{bk:Option (Nat×Bool)}{v v':U}
variable{x y z:Operand}{k k':IntKind}{a b:Int}{T cU t:TypeId}{e:bQ}{ms:Array (String×TypeId)}
theorem X9{tx:TypeId}{vx:Value}(hu:C.P.underlying T=some (.interface ms)):cQ C.P (Op.equal T (.iface tx vx) .nilIface)=some false:=by unfold Op.equal Op.maxDepth;have:∀d,cQ C.P (Op.equalIn (d+1) T (.iface tx vx) .nilIface)=some false:=fun d=>by{simp[Op.equalIn,ga,oD hu,nL]};exact this 9999
theorem Yb(hu:C.P.underlying T=some (.interface ms)):cQ C.P (Op.equal T .nilIface .nilIface)=some true:=by unfold Op.equal Op.maxDepth;have:∀d,cQ C.P (Op.equalIn (d+1) T .nilIface .nilIface)=some true:=fun d=>by{simp[Op.equalIn,ga,oD hu,nL]};exact this 9999
theorem Ya{tx:TypeId}{vx:Value}(hu:C.P.underlying T=some (.interface ms)):cQ C.P (Op.equal T .nilIface (.iface tx vx))=some false:=by unfold Op.equal Op.maxDepth;have:∀d,cQ C.P (Op.equalIn (d+1) T .nilIface (.iface tx vx))=some false:=fun d=>by{simp[Op.equalIn,ga,oD hu,nL]};exact this 9999
theorem X8{m n:Int}(hu:C.P.underlying T=some (.interface ms))(ht:C.P.underlying t=some (.int .i64))(hc:∃i,C.P.info? t=some i∧i.comparable=true):cQ C.P (Op.equal T (.iface t (.int .i64 m)) (.iface t (.int .i64 n)))=some (m==n):=by obtain⟨i,hi,hc⟩:=hc;unfold Op.equal Op.maxDepth;have:∀d,cQ C.P (Op.equalIn (d+1+1) T (.iface t (.int .i64 m)) (.iface t (.int .i64 n)))=some (m==n):=fun d=>by{have JA:cQ C.P (typeInfo t)=some i:=by{unfold typeInfo;rw[ga];show(some C.P).bind _=_;simp[hi,nL]};simp[Op.equalIn,ga,oD hu,oD ht,nL,JA,hc]};exact this 9998
def Aj:Operand:= .const .nilIface
theorem EC{eD gS:Value}{r:Bool}(hk:(∃tx vx,eD= .iface tx vx)∨(∃tx vx,gS= .iface tx vx)∨y= .const .nilIface)(hb:eD= .nilIface∨∃tx vx,eD= .iface tx vx)(hb':gS= .nilIface∨∃tx vx,gS= .iface tx vx)(h:cQ C.P (Op.equal T eD gS)=some r):er C.P .eql T x y eD gS=some (.bool r)∧er C.P .neq T x y eD gS=some (.bool (!r)):=by have hg:∀op,cQ C.P (eqGuard op T x y eD gS)=some ():=fun op=>by{rcases hb with rfl|⟨_,_,rfl⟩<;>rcases hb' with rfl|⟨_,_,rfl⟩;·{rcases hk with⟨_,_,h⟩|⟨_,_,h⟩|rfl;·{cases h};·{cases h};·cases op<;>cases x<;>simp[eqGuard,nL,cQ,pure]};·{cases op<;>rfl};·{cases op<;>rfl};·cases op<;>rfl};have wR:binOp .eql T eD gS=(do pure (.bool (<-Op.equal T eD gS)):Sem Value):=by{rcases hb with rfl|⟨_,_,rfl⟩<;>rcases hb' with rfl|⟨_,_,rfl⟩<;>rfl};have Jk:binOp .neq T eD gS=(do pure (.bool (!(<-Op.equal T eD gS))):Sem Value):=by{rcases hb with rfl|⟨_,_,rfl⟩<;>rcases hb' with rfl|⟨_,_,rfl⟩<;>rfl};constructor;·{unfold er;rw[ga,hg,GT,wR,ga,h];rfl};·unfold er;rw[ga,hg,GT,Jk,ga,h];rfl
theorem Kv{op:BinOp}{r:Bool}[hu:de C T (.interface ms)](hx:un g (S.get C x)=gp t e:=by first|exact rfl|exact ck)(hy:y=Aj:=by exact rfl)(hop:(op= .eql∧r=e.isNil)∨(op= .neq∧r= !e.isNil):=by first|exact .inl ⟨rfl,rfl⟩|exact .inr ⟨rfl,rfl⟩):bp C f call S g ⟨some d, .binOp op T x y cU,ty,pos,aG,bk⟩=some ⟨[(d, .val (.bool r))],[],[]⟩:=by subst hy;have hy:un g (S.get C Aj)= .val .nilIface:=by{cases g<;>rfl};cases e with|nil=>(have:=EC (C:=C) (T:=T) (x:=x) (y:=Aj) (eD:= .nilIface) (gS:= .nilIface) (.inr (.inr rfl)) (.inl rfl) (.inl rfl) (Yb hu.ul);rcases hop with⟨rfl,rfl⟩|⟨rfl,rfl⟩;·{exact oz hx hy rfl rfl this.1 rfl};·exact oz hx hy rfl rfl this.2 rfl)|code n=>(have:=EC (C:=C) (T:=T) (x:=x) (y:=Aj) (eD:= .iface t (.int .i64 n)) (gS:= .nilIface) (.inl ⟨_,_,rfl⟩) (.inr ⟨_,_,rfl⟩) (.inl rfl) (X9 hu.ul);rcases hop with⟨rfl,rfl⟩|⟨rfl,rfl⟩;·{exact oz hx hy rfl rfl this.1 rfl};·exact oz hx hy rfl rfl this.2 rfl)|other=>show sK C _ op T x Aj (un g (S.get C x)) (un g (S.get C Aj))=_;rw[hx,hy];rcases hop with⟨rfl,rfl⟩|⟨rfl,rfl⟩<;>simp[sK,gp,lM,hu.ul,Ko,bQ.isNil,ret,put]
theorem CX{op:BinOp}{n:Int}{dU r:Bool}(hc:e.rF n=some dU)[hu:de C T (.interface ms)][ht:de C t (.int .i64)][hb:Eb C t](hx:un g (S.get C x)=gp t e:=by first|exact rfl|exact ck)(hy:un g (S.get C y)=gp t (.code n):=by first|exact rfl|exact ck)(hop:(op= .eql∧r=dU)∨(op= .neq∧r= !dU):=by first|exact .inl ⟨rfl,rfl⟩|exact .inr ⟨rfl,rfl⟩):bp C f call S g ⟨some d, .binOp op T x y cU,ty,pos,aG,bk⟩=some ⟨[(d, .val (.bool r))],[],[]⟩:=by cases e with|nil=>(obtain rfl:false=dU:=GE hc;have:=EC (C:=C) (T:=T) (x:=x) (y:=y) (eD:= .nilIface) (gS:= .iface t (.int .i64 n)) (.inr (.inl ⟨_,_,rfl⟩)) (.inl rfl) (.inr ⟨_,_,rfl⟩) (Ya hu.ul);rcases hop with⟨rfl,rfl⟩|⟨rfl,rfl⟩;·{exact oz hx hy rfl rfl this.1 rfl};·exact oz hx hy rfl rfl this.2 rfl)|code m=>(obtain rfl:(m==n)=dU:=GE hc;have:=EC (C:=C) (T:=T) (x:=x) (y:=y) (eD:= .iface t (.int .i64 m)) (gS:= .iface t (.int .i64 n)) (.inl ⟨_,_,rfl⟩) (.inr ⟨_,_,rfl⟩) (.inr ⟨_,_,rfl⟩) (X8 hu.ul ht.ul hb.ex);rcases hop with⟨rfl,rfl⟩|⟨rfl,rfl⟩;·{exact oz hx hy rfl rfl this.1 rfl};·exact oz hx hy rfl rfl this.2 rfl)|other=>cases hc
theorem mb{n:Int}[hu:de C t (.int .i64)](hx:un g (S.get C x)= .val (.int .i64 n):=by first|exact rfl|exact ck):bp C f call S g ⟨some d, .makeInterface t x,ty,pos,aG,bk⟩=some ⟨[(d,gp t (.code n))],[],[]⟩:=by show p9 C _ t (un g (S.get C x))=_;rw[hx];simp[p9,hu.ul,dN,ret,put,gp]
theorem F2{e':TypeId}{cs:List U}[hu:de C t (.pointer e')](hx:un g (S.get C x)= .aP cs:=by first|exact rfl|exact ck):bp C f call S g ⟨some d, .makeInterface t x,ty,pos,aG,bk⟩=some ⟨[(d, .nn)],[],[]⟩:=by show p9 C _ t (un g (S.get C x))=_;rw[hx];simp[p9,hu.ul,lM,ret,put]
def nw(s:ByteArray):List Int:=s.data.toList.map fun b=>(b.toNat:Int)
theorem adS{s:ByteArray}{dT:TypeDesc}{el:TypeId}[h1:de C T dT][h2:de C cU (.slice el)][h3:de C el (.int .u8)](hx:un g (S.get C x)= .val (.string s):=by first|exact rfl|exact ck):bp C f call S g ⟨some d, .convert T cU x,ty,pos,aG,bk⟩=some ⟨[(d, .sl ((nw s).map fun n=>[.val (.int .u8 n)]))],[],[]⟩:=by show sM C _ T cU (un g (S.get C x))=_;have hb:uz C T cU=true:=by{simp[uz,h1.ul,h2.ul,h3.ul]};rw[hx];simp[sM,hb,EX,ret,put,Bp,nw,List.map_map,Function.comp]
def oY(s:ByteArray):U:= .val (.string s)
theorem Qm{α:Type}{c:α->U}{m:Nat}{q:List α}[ha:cX C T true m](hx:un g (S.get C x)= .aP (q.map c):=by exact rfl)(hl:q.length=m:=by exact rfl):bp C f call S g ⟨some d, .load T x,ty,pos,aG,bk⟩=some ⟨[(d, .agg (q.map c))],[],[]⟩:=by show mF C S _ T (un g (S.get C x))=_;have ht:List.take q.length (q.map c)=q.map c:=by{rw[<-List.length_map c];exact List.take_length};simp[mF,ha.kZ,ha.sz,hx,<-hl,jx,ht]
theorem Ql{α:Type}{c:α->U}{el:TypeId}{len:Nat}{i:Int}{r:α}{q:List α}(hi:idx q i=some r)[hu:de C T (.array len el)][hs:cX C el false 1](hx:un g (S.get C x)= .agg (q.map c):=by first|exact rfl|exact ck)(hc:∀x,(c x).cell=true:=by exact fun _=>rfl)(hy:un g (S.get C y)= .val (.int k i):=by first|exact rfl|exact ck)(hl:q.length=len:=by exact rfl):bp C f call S g ⟨some d, .index T x y,ty,pos,aG,bk⟩=some ⟨[(d,c r)],[],[]⟩:=by show uF C _ T (un g (S.get C x)) (ek (un g (S.get C y)))=_;have hb:=CB hi;have hn:=td hi;subst hl;have hlt:i.toNat<q.length:=by{omega};have e1:((q.map c).drop (i.toNat*1)).take 1=[c r]:=by{have:q[i.toNat]=r:=by{rw[List.getElem?_eq_getElem hlt]at hn;simpa using hn};rw[Nat.mul_one,List.drop_eq_getElem_cons (by simpa using hlt)];simp[this]};simp only[hx,hy,ek,uF,hu.ul,hs.sz,hs.kZ];rw[if_pos ⟨hb.1,hb.2,by simp;omega⟩,e1];simp[jx,put]
end
end Go.Ab
