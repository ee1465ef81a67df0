import Derived.Test.YtbbhbdlljfffdaaGreatDoorAbV1
import Derived.Laws.StructEq
open Bool renaming false_eq_true→GT
open Option renaming bind_some→GE
set_option linter.all false
namespace Go.Ab
open Go
theorem fK{α β:Type}(P:Program)(s:Sem α)(k:α→Sem β):cu P (s>>=k)=(cu P s).bind fun a=>cu P (k a):=by show cu P (s.bind k)=_;induction s with|pure a=>(rfl)|program k2 ih=>(simpa[Sem.bind,cu]using ih P)|_=>simp[Sem.bind,cu]
section
variable{P:Program}
theorem lA{α:Type}(a:α):cu P (pure a:Sem α)=some a:=rfl
theorem D8:cu P program=some P:=rfl
theorem lB{t:TypeId}{d:TypeDesc}(h:P.underlying t=some d):cu P (underlying t)=some d:=by unfold underlying;rw[fK,D8,GE,h];rfl
def Dq:TypeDesc→Bool| .struct _=>false| .array _ _=>false|_=>true
theorem XB{t:TypeId}{d:TypeDesc}(h:P.underlying t=some d)(hd:Dq d=true):cu P (isAgg t)=some false:=by unfold isAgg;rw[fK,lB h,GE];cases d<;>first|rfl|cases hd
theorem Kb{t:TypeId}{d:TypeDesc}{cs:Array Value}{off:Nat}{v:Value}(h:P.underlying t=some d)(hd:Dq d=true)(hv:cs[off]? =some v):cu P (part t cs off)=some v:=by unfold part;rw[fK,XB h hd,GE,hv];rfl
theorem Xz(d:Nat)(t:TypeId)(xs ys:Array Value)(ht:P.underlying t=some (.struct (P.fieldsOf t)))(hp:P.stoodInHeld t=false):cu P (Op.equalIn (d+1) t (.agg xs) (.agg ys))=cu P (Op.eqFields d xs ys (P.fieldsOf t).toList):=by simp only[Op.equalIn,fK,lB ht,GE,D8,hp,GT,if_false];rw[←Array.forIn_toList];generalize(P.fieldsOf t).toList=fs;clear ht;induction fs with|nil=>(rfl)|cons f fs ih=>simp only[List.forIn_cons,Op.eqFields,fK];split;·{simp only[fK];cases cu P (part f.type xs f.offset)with|none=>(rfl)|some a=>simp only[GE];cases cu P (part f.type ys f.offset)with|none=>(rfl)|some b=>simp only[GE];cases cu P (Op.equalIn d f.type a b)with|none=>(rfl)|some r=>cases r;·{rfl};·simp only[GE,Bool.not_true,GT,if_false,lA];exact ih};·simp only[lA,GE];exact ih
def Ar:Value→Value→Option Bool| .int k a, .int k' b=>if k=k' then some (a==b)else none| .bool a, .bool b=>some (a==b)| .string a, .string b=>some (a.toList==b.toList)|_,_=>none
def fits:TypeDesc→Value→Bool| .int _, .int _ _=>true| .bool, .bool _=>true| .string, .string _=>true|_,_=>false
theorem Xy{d:Nat}{t:TypeId}{D:TypeDesc}{x y:Value}{b:Bool}(h:P.underlying t=some D)(hf:fits D x=true)(he:Ar x y=some b):cu P (Op.equalIn (d+1) t x y)=some b:=by
 cases x<;>cases D<;>simp only[fits,GT]at hf<;>cases y<;>simp only[Ar]at he<;>try cases he
 ·simp[Op.equalIn,fK,lB h,lA]
 ·split at he
  ·rename_i hk;subst hk
   simp only[Option.some.injEq]at he;subst he
   simp[Op.equalIn,fK,lB h,lA]
  ·cases he
 ·simp[Op.equalIn,fK,lB h,lA,beq_toListBytes]
def tc(P:Program)(xs ys:Array Value):List Field→Option Bool|[]=>some true|f::fs=>if f.name≠ "_" then match P.underlying f.type,xs[f.offset]?,ys[f.offset]? with|some D,some x,some y=>if fits D x then(Ar x y).bind fun b=>(tc P xs ys fs).map (b&&·)else none|_,_,_=>none else none
theorem Ka{d:Nat}{xs ys:Array Value}:∀{fs:List Field}{b:Bool},tc P xs ys fs=some b→cu P (Op.eqFields (d+1) xs ys fs)=some b|[],b,h=>by{simp[tc]at h;subst h;rfl}|f::fs,b,h=>by unfold tc at h;split at h;·{rename_i hn;split at h;·{rename_i D x y hD hx hy;split at h;·{rename_i hf;simp only[Option.bind_eq_some_iff,Option.map_eq_some_iff]at h;obtain⟨b1,h1,b2,h2,rfl⟩:=h;have hd:Dq D=true:=by{cases D<;>cases x<;>simp[fits]at hf<;>rfl};simp only[Op.eqFields];rw[AC hn];simp only[fK,Kb hD hd hx,Kb hD hd hy,Option.bind_some,Xy hD hf h1];cases b1;·{rfl};·simpa using Ka h2};·cases h};·cases h};·cases h
theorem OM{t:TypeId}{x y:Operand}{xs ys:Array Value}{fs:Array Field}{b:Bool}(hf:P.underlying t=some (.struct fs))(hp:P.stoodInHeld t=false)(hm:P.eqGuardType P.depth t=false)(he:tc P xs ys fs.toList=some b):dM P .neq t x y (.agg xs) (.agg ys)=some (.bool (!b)):=by have e:P.fieldsOf t=fs:=by{unfold Program.fieldsOf;rw[hf]};unfold dM;have e1:cu P (eqGuard .neq t x y (.agg xs) (.agg ys))=some ():=by{simp[eqGuard,fK,D8,hm,lA]};rw[fK,e1,GE];simp only[binOp,Op.equal,Op.maxDepth];rw[fK,Xz 9999 t xs ys (by rw[e];exact hf) hp,e,Ka he];rfl
end
end Go.Ab
