import Derived.Test.YtbbhbdlljfffdaaGreatDoorAbV1
import Derived.Laws.StructEq
open Bool renaming false_eq_true→Do
open Option renaming bind_some→AC
set_option linter.all false
namespace Go.Ab
open Go
theorem gZ{α β:Type}(P:Program)(s:Sem α)(k:α→Sem β):cY P (s>>=k)=(cY P s).bind fun a=>cY P (k a):=by show cY P (s.bind k)=_;induction s with|pure a=>(rfl)|program k2 ih=>(simpa[Sem.bind,cY]using ih P)|_=>simp[Sem.bind,cY]
section
variable{P:Program}
theorem oo{α:Type}(a:α):cY P (pure a:Sem α)=some a:=rfl
theorem Lg:cY P program=some P:=rfl
theorem oq{t:TypeId}{d:TypeDesc}(h:P.underlying t=some d):cY P (underlying t)=some d:=by unfold underlying;rw[gZ,Lg,AC,h];rfl
def KA:TypeDesc→Bool| .struct _=>false| .array _ _=>false|_=>true
theorem ahA{t:TypeId}{d:TypeDesc}(h:P.underlying t=some d)(hd:KA d=true):cY P (isAgg t)=some false:=by unfold isAgg;rw[gZ,oq h,AC];cases d<;>first|rfl|cases hd
theorem Si{t:TypeId}{d:TypeDesc}{cs:Array Value}{off:Nat}{v:Value}(h:P.underlying t=some d)(hd:KA d=true)(hv:cs[off]? =some v):cY P (part t cs off)=some v:=by unfold part;rw[gZ,ahA h hd,AC,hv];rfl
theorem ahy(d:Nat)(t:TypeId)(xs ys:Array Value)(ht:P.underlying t=some (.struct (P.fieldsOf t)))(hp:P.stoodInHeld t=false):cY P (Op.equalIn (d+1) t (.agg xs) (.agg ys))=cY P (Op.eqFields d xs ys (P.fieldsOf t).toList):=by simp only[Op.equalIn,gZ,oq ht,AC,Lg,hp,Do,if_false];rw[←Array.forIn_toList];generalize(P.fieldsOf t).toList=fs;clear ht;induction fs with|nil=>(rfl)|cons f fs ih=>simp only[List.forIn_cons,Op.eqFields,gZ];split;·{simp only[gZ];cases cY P (part f.type xs f.offset)with|none=>(rfl)|some a=>simp only[AC];cases cY P (part f.type ys f.offset)with|none=>(rfl)|some b=>simp only[AC];cases cY P (Op.equalIn d f.type a b)with|none=>(rfl)|some r=>cases r;·{rfl};·simp only[AC,Bool.not_true,Do,if_false,oo];exact ih};·simp only[oo,AC];exact ih
def Gp:Value→Value→Option Bool| .int k a, .int k' b=>if k=k' then some (a==b)else none| .bool a, .bool b=>some (a==b)| .string a, .string b=>some (a.toList==b.toList)|_,_=>none
def fits:TypeDesc→Value→Bool| .int _, .int _ _=>true| .bool, .bool _=>true| .string, .string _=>true|_,_=>false
theorem ahx{d:Nat}{t:TypeId}{D:TypeDesc}{x y:Value}{b:Bool}(h:P.underlying t=some D)(hf:fits D x=true)(he:Gp x y=some b):cY P (Op.equalIn (d+1) t x y)=some b:=by
 cases x<;>cases D<;>simp only[fits,Do]at hf<;>cases y<;>simp only[Gp]at he<;>try cases he
 ·simp[Op.equalIn,gZ,oq h,oo]
 ·split at he
  ·rename_i hk;subst hk
   simp only[Option.some.injEq]at he;subst he
   simp[Op.equalIn,gZ,oq h,oo]
  ·cases he
 ·simp[Op.equalIn,gZ,oq h,oo,beq_toListBytes]
def yH(P:Program)(xs ys:Array Value):List Field→Option Bool|[]=>some true|f::fs=>if f.name≠ "_" then match P.underlying f.type,xs[f.offset]?,ys[f.offset]? with|some D,some x,some y=>if fits D x then(Gp x y).bind fun b=>(yH P xs ys fs).map (b&&·)else none|_,_,_=>none else none
theorem Sh{d:Nat}{xs ys:Array Value}:∀{fs:List Field}{b:Bool},yH P xs ys fs=some b→cY P (Op.eqFields (d+1) xs ys fs)=some b|[],b,h=>by{simp[yH]at h;subst h;rfl}|f::fs,b,h=>by unfold yH at h;split at h;·{rename_i hn;split at h;·{rename_i D x y hD hx hy;split at h;·{rename_i hf;simp only[Option.bind_eq_some_iff,Option.map_eq_some_iff]at h;obtain⟨b1,h1,b2,h2,rfl⟩:=h;have hd:KA D=true:=by{cases D<;>cases x<;>simp[fits]at hf<;>rfl};simp only[Op.eqFields];rw[if_pos hn];simp only[gZ,Si hD hd hx,Si hD hd hy,Option.bind_some,ahx hD hf h1];cases b1;·{rfl};·simpa using Sh h2};·cases h};·cases h};·cases h
theorem Xy{t:TypeId}{x y:Operand}{xs ys:Array Value}{fs:Array Field}{b:Bool}(hf:P.underlying t=some (.struct fs))(hp:P.stoodInHeld t=false)(hm:P.eqGuardType P.depth t=false)(he:yH P xs ys fs.toList=some b):eR P .neq t x y (.agg xs) (.agg ys)=some (.bool (!b)):=by have e:P.fieldsOf t=fs:=by{unfold Program.fieldsOf;rw[hf]};unfold eR;have e1:cY P (eqGuard .neq t x y (.agg xs) (.agg ys))=some ():=by{simp[eqGuard,gZ,Lg,hm,oo]};rw[gZ,e1,AC];simp only[binOp,Op.equal,Op.maxDepth];rw[gZ,ahy 9999 t xs ys (by rw[e];exact hf) hp,e,Sh he];rfl
end
end Go.Ab
