import Derived.Test.YtbikcahlonfnmaaGreatAbV1
import Derived.Laws.StructEq
namespace Go.Ab
open Go
theorem ic{α β:Type}(P:Program)(s:Sem α)(k:α→Sem β):dD P (s>>=k)=(dD P s).bind fun a=>dD P (k a):=by show dD P (s.bind k)=_;induction s with|pure a=>(rfl)|program k2 ih=>(simpa[Sem.bind,dD]using ih P)|_=>simp[Sem.bind,dD]
section
variable{P:Program}
theorem v8{α:Type}(a:α):dD P (pure a:Sem α)=some a:=rfl
theorem Jx:dD P program=some P:=rfl
theorem uj{t:TypeId}{d:TypeDesc}(h:P.underlying t=some d):dD P (underlying t)=some d:=by unfold underlying;rw[ic,Jx,Option.bind_some,h];rfl
def Nt:TypeDesc→Bool| .struct _=>false| .array _ _=>false|_=>true
theorem ajg{t:TypeId}{d:TypeDesc}(h:P.underlying t=some d)(hd:Nt d=true):dD P (isAgg t)=some false:=by unfold isAgg;rw[ic,uj h,Option.bind_some];cases d<;>first|rfl|cases hd
theorem Uy{t:TypeId}{d:TypeDesc}{cs:Array Value}{off:Nat}{v:Value}(h:P.underlying t=some d)(hd:Nt d=true)(hv:cs[off]? =some v):dD P (part t cs off)=some v:=by unfold part;rw[ic,ajg h hd,Option.bind_some,hv];rfl
theorem Ux(d:Nat)(t:TypeId)(xs ys:Array Value)(ht:P.underlying t=some (.struct (P.fieldsOf t)))(hp:P.stoodInHeld t=false):dD P (Op.equalIn (d+1) t (.agg xs) (.agg ys))=dD P (Op.eqFields d xs ys (P.fieldsOf t).toList):=by simp only[Op.equalIn,ic,uj ht,Option.bind_some,Jx,hp,Bool.false_eq_true,if_false];rw[←Array.forIn_toList];generalize(P.fieldsOf t).toList=fs;clear ht;induction fs with|nil=>(rfl)|cons f fs ih=>simp only[List.forIn_cons,Op.eqFields,ic];split;·{simp only[ic];cases dD P (part f.type xs f.offset)with|none=>(rfl)|some a=>simp only[Option.bind_some];cases dD P (part f.type ys f.offset)with|none=>(rfl)|some b=>simp only[Option.bind_some];cases dD P (Op.equalIn d f.type a b)with|none=>(rfl)|some r=>cases r;·{rfl};·simp only[Option.bind_some,Bool.not_true,Bool.false_eq_true,if_false,v8];exact ih};·simp only[v8,Option.bind_some];exact ih
def Gq:Value→Value→Option Bool| .int k a, .int k' b=>if k=k' then some (a==b)else none| .bool a, .bool b=>some (a==b)| .string a, .string b=>some (a.toList==b.toList)|_,_=>none
def fits:TypeDesc→Value→Bool| .int _, .int _ _=>true| .bool, .bool _=>true| .string, .string _=>true|_,_=>false
theorem Uw {d : Nat} {t : TypeId} {D : TypeDesc} {x y : Value} {b : Bool} (h : P.underlying t = some D) (hf : fits D x = true) (he : Gq x y = some b) : dD P (Op.equalIn (d + 1) t x y) = some b := by
  cases x <;> cases D <;> simp only [fits, Bool.false_eq_true] at hf <;> cases y <;> simp only [Gq] at he <;> try cases he
  · simp [Op.equalIn, ic, uj h, v8]
  · split at he
    · rename_i hk; subst hk
      simp only [Option.some.injEq] at he; subst he
      simp [Op.equalIn, ic, uj h, v8]
    · cases he
  · simp [Op.equalIn, ic, uj h, v8, beq_toListBytes]
def vb(P:Program)(xs ys:Array Value):List Field→Option Bool|[]=>some true|f::fs=>if f.name≠ "_" then match P.underlying f.type,xs[f.offset]?,ys[f.offset]? with|some D,some x,some y=>if fits D x then(Gq x y).bind fun b=>(vb P xs ys fs).map (b&&·)else none|_,_,_=>none else none
theorem NQ{d:Nat}{xs ys:Array Value}:∀{fs:List Field}{b:Bool},vb P xs ys fs=some b→dD P (Op.eqFields (d+1) xs ys fs)=some b|[],b,h=>by{simp[vb]at h;subst h;rfl}|f::fs,b,h=>by unfold vb at h;split at h;·{rename_i hn;split at h;·{rename_i D x y hD hx hy;split at h;·{rename_i hf;simp only[Option.bind_eq_some_iff,Option.map_eq_some_iff]at h;obtain⟨b1,h1,b2,h2,rfl⟩:=h;have hd:Nt D=true:=by{cases D<;>cases x<;>simp[fits]at hf<;>rfl};simp only[Op.eqFields];rw[if_pos hn];simp only[ic,Uy hD hd hx,Uy hD hd hy,Option.bind_some,Uw hD hf h1];cases b1;·{rfl};·simpa using NQ h2};·cases h};·cases h};·cases h
theorem ZH{t:TypeId}{x y:Operand}{xs ys:Array Value}{fs:Array Field}{b:Bool}(hf:P.underlying t=some (.struct fs))(hp:P.stoodInHeld t=false)(hm:P.eqGuardType P.depth t=false)(he:vb P xs ys fs.toList=some b):eA P .eql t x y (.agg xs) (.agg ys)=some (.bool b):=by have e:P.fieldsOf t=fs:=by{unfold Program.fieldsOf;rw[hf]};unfold eA;have e1:dD P (eqGuard .eql t x y (.agg xs) (.agg ys))=some ():=by{simp[eqGuard,ic,Jx,hm,v8]};rw[ic,e1,Option.bind_some];simp only[binOp,Op.equal,Op.maxDepth];rw[ic,Ux 9999 t xs ys (by rw[e];exact hf) hp,e,NQ he];rfl
theorem ZP{t:TypeId}{x y:Operand}{xs ys:Array Value}{fs:Array Field}{b:Bool}(hf:P.underlying t=some (.struct fs))(hp:P.stoodInHeld t=false)(hm:P.eqGuardType P.depth t=false)(he:vb P xs ys fs.toList=some b):eA P .neq t x y (.agg xs) (.agg ys)=some (.bool (!b)):=by have e:P.fieldsOf t=fs:=by{unfold Program.fieldsOf;rw[hf]};unfold eA;have e1:dD P (eqGuard .neq t x y (.agg xs) (.agg ys))=some ():=by{simp[eqGuard,ic,Jx,hm,v8]};rw[ic,e1,Option.bind_some];simp only[binOp,Op.equal,Op.maxDepth];rw[ic,Ux 9999 t xs ys (by rw[e];exact hf) hp,e,NQ he];rfl
end
end Go.Ab
