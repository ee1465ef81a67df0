import Derived.Test.YtbbhbdlljfffdaaGreatDoorAbV1
import Derived.Laws.StructEq
open Bool renaming false_eq_true→GT
open Option renaming bind_some→GE
set_option linter.all false
namespace Go.Ab
open Go
theorem gJ{α β:Type}(P:Program)(s:Sem α)(k:α→Sem β):cS P (s>>=k)=(cS P s).bind fun a=>cS P (k a):=by show cS P (s.bind k)=_;induction s with|pure a=>(rfl)|program k2 ih=>(simpa[Sem.bind,cS]using ih P)|_=>simp[Sem.bind,cS]
section
variable{P:Program}
theorem oQ{α:Type}(a:α):cS P (pure a:Sem α)=some a:=rfl
theorem L4:cS P program=some P:=rfl
theorem nY{t:TypeId}{d:TypeDesc}(h:P.underlying t=some d):cS P (underlying t)=some d:=by unfold underlying;rw[gJ,L4,GE,h];rfl
def Li:TypeDesc→Bool| .struct _=>false| .array _ _=>false|_=>true
theorem ai8{t:TypeId}{d:TypeDesc}(h:P.underlying t=some d)(hd:Li d=true):cS P (isAgg t)=some false:=by unfold isAgg;rw[gJ,nY h,GE];cases d<;>first|rfl|cases hd
theorem TD{t:TypeId}{d:TypeDesc}{cs:Array Value}{off:Nat}{v:Value}(h:P.underlying t=some d)(hd:Li d=true)(hv:cs[off]? =some v):cS P (part t cs off)=some v:=by unfold part;rw[gJ,ai8 h hd,GE,hv];rfl
theorem ai6(d:Nat)(t:TypeId)(xs ys:Array Value)(ht:P.underlying t=some (.struct (P.fieldsOf t)))(hp:P.stoodInHeld t=false):cS P (Op.equalIn (d+1) t (.agg xs) (.agg ys))=cS P (Op.eqFields d xs ys (P.fieldsOf t).toList):=by simp only[Op.equalIn,gJ,nY ht,GE,L4,hp,GT,if_false];rw[←Array.forIn_toList];generalize(P.fieldsOf t).toList=fs;clear ht;induction fs with|nil=>(rfl)|cons f fs ih=>simp only[List.forIn_cons,Op.eqFields,gJ];split;·{simp only[gJ];cases cS P (part f.type xs f.offset)with|none=>(rfl)|some a=>simp only[GE];cases cS P (part f.type ys f.offset)with|none=>(rfl)|some b=>simp only[GE];cases cS P (Op.equalIn d f.type a b)with|none=>(rfl)|some r=>cases r;·{rfl};·simp only[GE,Bool.not_true,GT,if_false,oQ];exact ih};·simp only[oQ,GE];exact ih
def Hw:Value→Value→Option Bool| .int k a, .int k' b=>if k=k' then some (a==b)else none| .bool a, .bool b=>some (a==b)| .string a, .string b=>some (a.toList==b.toList)|_,_=>none
def fits:TypeDesc→Value→Bool| .int _, .int _ _=>true| .bool, .bool _=>true| .string, .string _=>true|_,_=>false
theorem ai5{d:Nat}{t:TypeId}{D:TypeDesc}{x y:Value}{b:Bool}(h:P.underlying t=some D)(hf:fits D x=true)(he:Hw x y=some b):cS P (Op.equalIn (d+1) t x y)=some b:=by
 cases x<;>cases D<;>simp only[fits,GT]at hf<;>cases y<;>simp only[Hw]at he<;>try cases he
 ·simp[Op.equalIn,gJ,nY h,oQ]
 ·split at he
  ·rename_i hk;subst hk
   simp only[Option.some.injEq]at he;subst he
   simp[Op.equalIn,gJ,nY h,oQ]
  ·cases he
 ·simp[Op.equalIn,gJ,nY h,oQ,beq_toListBytes]
def zx(P:Program)(xs ys:Array Value):List Field→Option Bool|[]=>some true|f::fs=>if f.name≠ "_" then match P.underlying f.type,xs[f.offset]?,ys[f.offset]? with|some D,some x,some y=>if fits D x then(Hw x y).bind fun b=>(zx P xs ys fs).map (b&&·)else none|_,_,_=>none else none
theorem TB{d:Nat}{xs ys:Array Value}:∀{fs:List Field}{b:Bool},zx P xs ys fs=some b→cS P (Op.eqFields (d+1) xs ys fs)=some b|[],b,h=>by{simp[zx]at h;subst h;rfl}|f::fs,b,h=>by unfold zx at h;split at h;·{rename_i hn;split at h;·{rename_i D x y hD hx hy;split at h;·{rename_i hf;simp only[Option.bind_eq_some_iff,Option.map_eq_some_iff]at h;obtain⟨b1,h1,b2,h2,rfl⟩:=h;have hd:Li D=true:=by{cases D<;>cases x<;>simp[fits]at hf<;>rfl};simp only[Op.eqFields];rw[AC hn];simp only[gJ,TD hD hd hx,TD hD hd hy,Option.bind_some,ai5 hD hf h1];cases b1;·{rfl};·simpa using TB h2};·cases h};·cases h};·cases h
theorem Y8{t:TypeId}{x y:Operand}{xs ys:Array Value}{fs:Array Field}{b:Bool}(hf:P.underlying t=some (.struct fs))(hp:P.stoodInHeld t=false)(hm:P.eqGuardType P.depth t=false)(he:zx P xs ys fs.toList=some b):eD P .neq t x y (.agg xs) (.agg ys)=some (.bool (!b)):=by have e:P.fieldsOf t=fs:=by{unfold Program.fieldsOf;rw[hf]};unfold eD;have e1:cS P (eqGuard .neq t x y (.agg xs) (.agg ys))=some ():=by{simp[eqGuard,gJ,L4,hm,oQ]};rw[gJ,e1,GE];simp only[binOp,Op.equal,Op.maxDepth];rw[gJ,ai6 9999 t xs ys (by rw[e];exact hf) hp,e,TB he];rfl
end
end Go.Ab
