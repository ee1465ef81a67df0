import Derived.Test.YtmboghefgckkpaaGreatAbV1
import Derived.Laws.StructEq
namespace Go.Ab
open Go
theorem jQ{α β:Type}(P:Program)(s:Sem α)(k:α→Sem β):dV P (s>>=k)=(dV P s).bind fun a=>dV P (k a):=by show dV P (s.bind k)=_;induction s with|pure a=>(rfl)|program k2 ih=>(simpa[Sem.bind,dV]using ih P)|_=>simp[Sem.bind,dV]
section
variable{P:Program}
theorem xK{α:Type}(a:α):dV P (pure a:Sem α)=some a:=rfl
theorem KH:dV P program=some P:=rfl
theorem vN{t:TypeId}{d:TypeDesc}(h:P.underlying t=some d):dV P (underlying t)=some d:=by unfold underlying;rw[jQ,KH,Option.bind_some,h];rfl
def Ow:TypeDesc→Bool| .struct _=>false| .array _ _=>false|_=>true
theorem alN{t:TypeId}{d:TypeDesc}(h:P.underlying t=some d)(hd:Ow d=true):dV P (isAgg t)=some false:=by unfold isAgg;rw[jQ,vN h,Option.bind_some];cases d<;>first|rfl|cases hd
theorem VX{t:TypeId}{d:TypeDesc}{cs:Array Value}{off:Nat}{v:Value}(h:P.underlying t=some d)(hd:Ow d=true)(hv:cs[off]? =some v):dV P (part t cs off)=some v:=by unfold part;rw[jQ,alN h hd,Option.bind_some,hv];rfl
theorem VW(d:Nat)(t:TypeId)(xs ys:Array Value)(ht:P.underlying t=some (.struct (P.fieldsOf t)))(hp:P.stoodInHeld t=false):dV P (Op.equalIn (d+1) t (.agg xs) (.agg ys))=dV P (Op.eqFields d xs ys (P.fieldsOf t).toList):=by simp only[Op.equalIn,jQ,vN ht,Option.bind_some,KH,hp,Bool.false_eq_true,if_false];rw[←Array.forIn_toList];generalize(P.fieldsOf t).toList=fs;clear ht;induction fs with|nil=>(rfl)|cons f fs ih=>simp only[List.forIn_cons,Op.eqFields,jQ];split;·{simp only[jQ];cases dV P (part f.type xs f.offset)with|none=>(rfl)|some a=>simp only[Option.bind_some];cases dV P (part f.type ys f.offset)with|none=>(rfl)|some b=>simp only[Option.bind_some];cases dV P (Op.equalIn d f.type a b)with|none=>(rfl)|some r=>cases r;·{rfl};·simp only[Option.bind_some,Bool.not_true,Bool.false_eq_true,if_false,xK];exact ih};·simp only[xK,Option.bind_some];exact ih
def HC:Value→Value→Option Bool| .int k a, .int k' b=>if k=k' then some (a==b)else none| .bool a, .bool b=>some (a==b)| .string a, .string b=>some (a.toList==b.toList)|_,_=>none
def fits:TypeDesc→Value→Bool| .int _, .int _ _=>true| .bool, .bool _=>true| .string, .string _=>true|_,_=>false
theorem alL{d:Nat}{t:TypeId}{D:TypeDesc}{x y:Value}{b:Bool}(h:P.underlying t=some D)(hf:fits D x=true)(he:HC x y=some b):dV P (Op.equalIn (d+1) t x y)=some b:=by
 cases x<;>cases D<;>simp only[fits,Bool.false_eq_true]at hf<;>cases y<;>simp only[HC]at he<;>try cases he
 ·simp[Op.equalIn,jQ,vN h,xK]
 ·split at he
  ·rename_i hk;subst hk
   simp only[Option.some.injEq]at he;subst he
   simp[Op.equalIn,jQ,vN h,xK]
  ·cases he
 ·simp[Op.equalIn,jQ,vN h,xK,beq_toListBytes]
def wL(P:Program)(xs ys:Array Value):List Field→Option Bool|[]=>some true|f::fs=>if f.name≠ "_" then match P.underlying f.type,xs[f.offset]?,ys[f.offset]? with|some D,some x,some y=>if fits D x then(HC x y).bind fun b=>(wL P xs ys fs).map (b&&·)else none|_,_,_=>none else none
theorem OP{d:Nat}{xs ys:Array Value}:∀{fs:List Field}{b:Bool},wL P xs ys fs=some b→dV P (Op.eqFields (d+1) xs ys fs)=some b|[],b,h=>by{simp[wL]at h;subst h;rfl}|f::fs,b,h=>by unfold wL at h;split at h;·{rename_i hn;split at h;·{rename_i D x y hD hx hy;split at h;·{rename_i hf;simp only[Option.bind_eq_some_iff,Option.map_eq_some_iff]at h;obtain⟨b1,h1,b2,h2,rfl⟩:=h;have hd:Ow D=true:=by{cases D<;>cases x<;>simp[fits]at hf<;>rfl};simp only[Op.eqFields];rw[if_pos hn];simp only[jQ,VX hD hd hx,VX hD hd hy,Option.bind_some,alL hD hf h1];cases b1;·{rfl};·simpa using OP h2};·cases h};·cases h};·cases h
theorem abF{t:TypeId}{x y:Operand}{xs ys:Array Value}{fs:Array Field}{b:Bool}(hf:P.underlying t=some (.struct fs))(hp:P.stoodInHeld t=false)(hm:P.eqGuardType P.depth t=false)(he:wL P xs ys fs.toList=some b):eZ P .eql t x y (.agg xs) (.agg ys)=some (.bool b):=by have e:P.fieldsOf t=fs:=by{unfold Program.fieldsOf;rw[hf]};unfold eZ;have e1:dV P (eqGuard .eql t x y (.agg xs) (.agg ys))=some ():=by{simp[eqGuard,jQ,KH,hm,xK]};rw[jQ,e1,Option.bind_some];simp only[binOp,Op.equal,Op.maxDepth];rw[jQ,VW 9999 t xs ys (by rw[e];exact hf) hp,e,OP he];rfl
theorem abN{t:TypeId}{x y:Operand}{xs ys:Array Value}{fs:Array Field}{b:Bool}(hf:P.underlying t=some (.struct fs))(hp:P.stoodInHeld t=false)(hm:P.eqGuardType P.depth t=false)(he:wL P xs ys fs.toList=some b):eZ P .neq t x y (.agg xs) (.agg ys)=some (.bool (!b)):=by have e:P.fieldsOf t=fs:=by{unfold Program.fieldsOf;rw[hf]};unfold eZ;have e1:dV P (eqGuard .neq t x y (.agg xs) (.agg ys))=some ():=by{simp[eqGuard,jQ,KH,hm,xK]};rw[jQ,e1,Option.bind_some];simp only[binOp,Op.equal,Op.maxDepth];rw[jQ,VW 9999 t xs ys (by rw[e];exact hf) hp,e,OP he];rfl
end
end Go.Ab
