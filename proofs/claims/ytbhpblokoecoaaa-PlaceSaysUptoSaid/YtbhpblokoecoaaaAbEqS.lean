import Derived.Test.YtbhpblokoecoaaaAbV1
import Derived.Laws.StructEq
namespace Go.Ab
open Go
theorem iX{α β:Type}(P:Program)(s:Sem α)(k:α→Sem β):dz P (s>>=k)=(dz P s).bind fun a=>dz P (k a):=by show dz P (s.bind k)=_;induction s with|pure a=>(rfl)|program k2 ih=>(simpa[Sem.bind,dz]using ih P)|_=>simp[Sem.bind,dz]
section
variable{P:Program}
theorem xu{α:Type}(a:α):dz P (pure a:Sem α)=some a:=rfl
theorem GH:dz P program=some P:=rfl
theorem uZ{t:TypeId}{d:TypeDesc}(h:P.underlying t=some d):dz P (underlying t)=some d:=by unfold underlying;rw[iX,GH,Option.bind_some,h];rfl
def Ku:TypeDesc→Bool| .struct _=>false| .array _ _=>false|_=>true
theorem aeg{t:TypeId}{d:TypeDesc}(h:P.underlying t=some d)(hd:Ku d=true):dz P (isAgg t)=some false:=by unfold isAgg;rw[iX,uZ h,Option.bind_some];cases d<;>first|rfl|cases hd
theorem Q7{t:TypeId}{d:TypeDesc}{cs:Array Value}{off:Nat}{v:Value}(h:P.underlying t=some d)(hd:Ku d=true)(hv:cs[off]? =some v):dz P (part t cs off)=some v:=by unfold part;rw[iX,aeg h hd,Option.bind_some,hv];rfl
theorem Q6(d:Nat)(t:TypeId)(xs ys:Array Value)(ht:P.underlying t=some (.struct (P.fieldsOf t)))(hp:P.stoodInHeld t=false):dz P (Op.equalIn (d+1) t (.agg xs) (.agg ys))=dz P (Op.eqFields d xs ys (P.fieldsOf t).toList):=by simp only[Op.equalIn,iX,uZ ht,Option.bind_some,GH,hp,Bool.false_eq_true,if_false];rw[←Array.forIn_toList];generalize(P.fieldsOf t).toList=fs;clear ht;induction fs with|nil=>(rfl)|cons f fs ih=>simp only[List.forIn_cons,Op.eqFields,iX];split;·{simp only[iX];cases dz P (part f.type xs f.offset)with|none=>(rfl)|some a=>simp only[Option.bind_some];cases dz P (part f.type ys f.offset)with|none=>(rfl)|some b=>simp only[Option.bind_some];cases dz P (Op.equalIn d f.type a b)with|none=>(rfl)|some r=>cases r;·{rfl};·simp only[Option.bind_some,Bool.not_true,Bool.false_eq_true,if_false,xu];exact ih};·simp only[xu,Option.bind_some];exact ih
def D7:Value→Value→Option Bool| .int k a, .int k' b=>if k=k' then some (a==b)else none| .bool a, .bool b=>some (a==b)| .string a, .string b=>some (a.toList==b.toList)|_,_=>none
def fits:TypeDesc→Value→Bool| .int _, .int _ _=>true| .bool, .bool _=>true| .string, .string _=>true|_,_=>false
theorem aef {d : Nat} {t : TypeId} {D : TypeDesc} {x y : Value} {b : Bool} (h : P.underlying t = some D) (hf : fits D x = true) (he : D7 x y = some b) : dz P (Op.equalIn (d + 1) t x y) = some b := by
  cases x <;> cases D <;> simp only [fits, Bool.false_eq_true] at hf <;> cases y <;> simp only [D7] at he <;> try cases he
  · simp [Op.equalIn, iX, uZ h, xu]
  · split at he
    · rename_i hk; subst hk
      simp only [Option.some.injEq] at he; subst he
      simp [Op.equalIn, iX, uZ h, xu]
    · cases he
  · simp [Op.equalIn, iX, uZ h, xu, beq_toListBytes]
def uc(P:Program)(xs ys:Array Value):List Field→Option Bool|[]=>some true|f::fs=>if f.name≠ "_" then match P.underlying f.type,xs[f.offset]?,ys[f.offset]? with|some D,some x,some y=>if fits D x then(D7 x y).bind fun b=>(uc P xs ys fs).map (b&&·)else none|_,_,_=>none else none
theorem KO{d:Nat}{xs ys:Array Value}:∀{fs:List Field}{b:Bool},uc P xs ys fs=some b→dz P (Op.eqFields (d+1) xs ys fs)=some b|[],b,h=>by{simp[uc]at h;subst h;rfl}|f::fs,b,h=>by unfold uc at h;split at h;·{rename_i hn;split at h;·{rename_i D x y hD hx hy;split at h;·{rename_i hf;simp only[Option.bind_eq_some_iff,Option.map_eq_some_iff]at h;obtain⟨b1,h1,b2,h2,rfl⟩:=h;have hd:Ku D=true:=by{cases D<;>cases x<;>simp[fits]at hf<;>rfl};simp only[Op.eqFields];rw[if_pos hn];simp only[iX,Q7 hD hd hx,Q7 hD hd hy,Option.bind_some,aef hD hf h1];cases b1;·{rfl};·simpa using KO h2};·cases h};·cases h};·cases h
theorem VN{t:TypeId}{x y:Operand}{xs ys:Array Value}{fs:Array Field}{b:Bool}(hf:P.underlying t=some (.struct fs))(hp:P.stoodInHeld t=false)(hm:P.eqGuardType P.depth t=false)(he:uc P xs ys fs.toList=some b):eo P .eql t x y (.agg xs) (.agg ys)=some (.bool b):=by have e:P.fieldsOf t=fs:=by{unfold Program.fieldsOf;rw[hf]};unfold eo;have e1:dz P (eqGuard .eql t x y (.agg xs) (.agg ys))=some ():=by{simp[eqGuard,iX,GH,hm,xu]};rw[iX,e1,Option.bind_some];simp only[binOp,Op.equal,Op.maxDepth];rw[iX,Q6 9999 t xs ys (by rw[e];exact hf) hp,e,KO he];rfl
theorem VV{t:TypeId}{x y:Operand}{xs ys:Array Value}{fs:Array Field}{b:Bool}(hf:P.underlying t=some (.struct fs))(hp:P.stoodInHeld t=false)(hm:P.eqGuardType P.depth t=false)(he:uc P xs ys fs.toList=some b):eo P .neq t x y (.agg xs) (.agg ys)=some (.bool (!b)):=by have e:P.fieldsOf t=fs:=by{unfold Program.fieldsOf;rw[hf]};unfold eo;have e1:dz P (eqGuard .neq t x y (.agg xs) (.agg ys))=some ():=by{simp[eqGuard,iX,GH,hm,xu]};rw[iX,e1,Option.bind_some];simp only[binOp,Op.equal,Op.maxDepth];rw[iX,Q6 9999 t xs ys (by rw[e];exact hf) hp,e,KO he];rfl
end
end Go.Ab
