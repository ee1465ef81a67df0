import Derived.Test.YtbbhbdlljfffdaaGreatDoorAbV1
import Derived.Laws.StructEq
open Bool renaming false_eq_true→GT
open Option renaming bind_some→GE
set_option linter.all false
namespace Go.Ab
open Go
theorem eZ{α β:Type}(P:Program)(s:Sem α)(k:α→Sem β):bY P (s>>=k)=(bY P s).bind fun a=>bY P (k a):=by show bY P (s.bind k)=_;induction s with|pure a=>(rfl)|program k2 ih=>(simpa[Sem.bind,bY]using ih P)|_=>simp[Sem.bind,bY]
section
variable{P:Program}
theorem lC{α:Type}(a:α):bY P (pure a:Sem α)=some a:=rfl
theorem Gn:bY P program=some P:=rfl
theorem kQ{t:TypeId}{d:TypeDesc}(h:P.underlying t=some d):bY P (underlying t)=some d:=by unfold underlying;rw[eZ,Gn,GE,h];rfl
def FP:TypeDesc→Bool| .struct _=>false| .array _ _=>false|_=>true
theorem aa8{t:TypeId}{d:TypeDesc}(h:P.underlying t=some d)(hd:FP d=true):bY P (isAgg t)=some false:=by unfold isAgg;rw[eZ,kQ h,GE];cases d<;>first|rfl|cases hd
theorem MD{t:TypeId}{d:TypeDesc}{cs:Array Value}{off:Nat}{v:Value}(h:P.underlying t=some d)(hd:FP d=true)(hv:cs[off]? =some v):bY P (part t cs off)=some v:=by unfold part;rw[eZ,aa8 h hd,GE,hv];rfl
theorem aa6(d:Nat)(t:TypeId)(xs ys:Array Value)(ht:P.underlying t=some (.struct (P.fieldsOf t)))(hp:P.stoodInHeld t=false):bY P (Op.equalIn (d+1) t (.agg xs) (.agg ys))=bY P (Op.eqFields d xs ys (P.fieldsOf t).toList):=by simp only[Op.equalIn,eZ,kQ ht,GE,Gn,hp,GT,if_false];rw[←Array.forIn_toList];generalize(P.fieldsOf t).toList=fs;clear ht;induction fs with|nil=>(rfl)|cons f fs ih=>simp only[List.forIn_cons,Op.eqFields,eZ];split;·{simp only[eZ];cases bY P (part f.type xs f.offset)with|none=>(rfl)|some a=>simp only[GE];cases bY P (part f.type ys f.offset)with|none=>(rfl)|some b=>simp only[GE];cases bY P (Op.equalIn d f.type a b)with|none=>(rfl)|some r=>cases r;·{rfl};·simp only[GE,Bool.not_true,GT,if_false,lC];exact ih};·simp only[lC,GE];exact ih
def Cm:Value→Value→Option Bool| .int k a, .int k' b=>if k=k' then some (a==b)else none| .bool a, .bool b=>some (a==b)| .string a, .string b=>some (a.toList==b.toList)|_,_=>none
def fits:TypeDesc→Value→Bool| .int _, .int _ _=>true| .bool, .bool _=>true| .string, .string _=>true|_,_=>false
theorem MC{d:Nat}{t:TypeId}{D:TypeDesc}{x y:Value}{b:Bool}(h:P.underlying t=some D)(hf:fits D x=true)(he:Cm x y=some b):bY P (Op.equalIn (d+1) t x y)=some b:=by
 cases x<;>cases D<;>simp only[fits,GT]at hf<;>cases y<;>simp only[Cm]at he<;>try cases he
 ·simp[Op.equalIn,eZ,kQ h,lC]
 ·split at he
  ·rename_i hk;subst hk
   simp only[Option.some.injEq]at he;subst he
   simp[Op.equalIn,eZ,kQ h,lC]
  ·cases he
 ·simp[Op.equalIn,eZ,kQ h,lC,beq_toListBytes]
def uK(P:Program)(xs ys:Array Value):List Field→Option Bool|[]=>some true|f::fs=>if f.name≠ "_" then match P.underlying f.type,xs[f.offset]?,ys[f.offset]? with|some D,some x,some y=>if fits D x then(Cm x y).bind fun b=>(uK P xs ys fs).map (b&&·)else none|_,_,_=>none else none
theorem MA{d:Nat}{xs ys:Array Value}:∀{fs:List Field}{b:Bool},uK P xs ys fs=some b→bY P (Op.eqFields (d+1) xs ys fs)=some b|[],b,h=>by{simp[uK]at h;subst h;rfl}|f::fs,b,h=>by unfold uK at h;split at h;·{rename_i hn;split at h;·{rename_i D x y hD hx hy;split at h;·{rename_i hf;simp only[Option.bind_eq_some_iff,Option.map_eq_some_iff]at h;obtain⟨b1,h1,b2,h2,rfl⟩:=h;have hd:FP D=true:=by{cases D<;>cases x<;>simp[fits]at hf<;>rfl};simp only[Op.eqFields];rw[AC hn];simp only[eZ,MD hD hd hx,MD hD hd hy,Option.bind_some,MC hD hf h1];cases b1;·{rfl};·simpa using MA h2};·cases h};·cases h};·cases h
theorem RO{t:TypeId}{x y:Operand}{xs ys:Array Value}{fs:Array Field}{b:Bool}(hf:P.underlying t=some (.struct fs))(hp:P.stoodInHeld t=false)(hm:P.eqGuardType P.depth t=false)(he:uK P xs ys fs.toList=some b):cV P .neq t x y (.agg xs) (.agg ys)=some (.bool (!b)):=by have e:P.fieldsOf t=fs:=by{unfold Program.fieldsOf;rw[hf]};unfold cV;have e1:bY P (eqGuard .neq t x y (.agg xs) (.agg ys))=some ():=by{simp[eqGuard,eZ,Gn,hm,lC]};rw[eZ,e1,GE];simp only[binOp,Op.equal,Op.maxDepth];rw[eZ,aa6 9999 t xs ys (by rw[e];exact hf) hp,e,MA he];rfl
end
end Go.Ab
