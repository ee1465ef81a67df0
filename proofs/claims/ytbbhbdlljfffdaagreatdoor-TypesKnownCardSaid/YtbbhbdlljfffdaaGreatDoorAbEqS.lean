import Derived.Test.YtbbhbdlljfffdaaGreatDoorAbV1
import Derived.Laws.StructEq
open Bool renaming false_eq_true→Do
open Option renaming bind_some→AC
set_option linter.all false
namespace Go.Ab
open Go
theorem gS{α β:Type}(P:Program)(s:Sem α)(k:α→Sem β):cZ P (s>>=k)=(cZ P s).bind fun a=>cZ P (k a):=by show cZ P (s.bind k)=_;induction s with|pure a=>(rfl)|program k2 ih=>(simpa[Sem.bind,cZ]using ih P)|_=>simp[Sem.bind,cZ]
section
variable{P:Program}
theorem n5{α:Type}(a:α):cZ P (pure a:Sem α)=some a:=rfl
theorem Ld:cZ P program=some P:=rfl
theorem n6{t:TypeId}{d:TypeDesc}(h:P.underlying t=some d):cZ P (underlying t)=some d:=by unfold underlying;rw[gS,Ld,AC,h];rfl
def Ku:TypeDesc→Bool| .struct _=>false| .array _ _=>false|_=>true
theorem ahp{t:TypeId}{d:TypeDesc}(h:P.underlying t=some d)(hd:Ku d=true):cZ P (isAgg t)=some false:=by unfold isAgg;rw[gS,n6 h,AC];cases d<;>first|rfl|cases hd
theorem R9{t:TypeId}{d:TypeDesc}{cs:Array Value}{off:Nat}{v:Value}(h:P.underlying t=some d)(hd:Ku d=true)(hv:cs[off]? =some v):cZ P (part t cs off)=some v:=by unfold part;rw[gS,ahp h hd,AC,hv];rfl
theorem ahn(d:Nat)(t:TypeId)(xs ys:Array Value)(ht:P.underlying t=some (.struct (P.fieldsOf t)))(hp:P.stoodInHeld t=false):cZ P (Op.equalIn (d+1) t (.agg xs) (.agg ys))=cZ P (Op.eqFields d xs ys (P.fieldsOf t).toList):=by simp only[Op.equalIn,gS,n6 ht,AC,Ld,hp,Do,if_false];rw[←Array.forIn_toList];generalize(P.fieldsOf t).toList=fs;clear ht;induction fs with|nil=>(rfl)|cons f fs ih=>simp only[List.forIn_cons,Op.eqFields,gS];split;·{simp only[gS];cases cZ P (part f.type xs f.offset)with|none=>(rfl)|some a=>simp only[AC];cases cZ P (part f.type ys f.offset)with|none=>(rfl)|some b=>simp only[AC];cases cZ P (Op.equalIn d f.type a b)with|none=>(rfl)|some r=>cases r;·{rfl};·simp only[AC,Bool.not_true,Do,if_false,n5];exact ih};·simp only[n5,AC];exact ih
def Gi:Value→Value→Option Bool| .int k a, .int k' b=>if k=k' then some (a==b)else none| .bool a, .bool b=>some (a==b)| .string a, .string b=>some (a.toList==b.toList)|_,_=>none
def fits:TypeDesc→Value→Bool| .int _, .int _ _=>true| .bool, .bool _=>true| .string, .string _=>true|_,_=>false
theorem ahm{d:Nat}{t:TypeId}{D:TypeDesc}{x y:Value}{b:Bool}(h:P.underlying t=some D)(hf:fits D x=true)(he:Gi x y=some b):cZ P (Op.equalIn (d+1) t x y)=some b:=by
 cases x<;>cases D<;>simp only[fits,Do]at hf<;>cases y<;>simp only[Gi]at he<;>try cases he
 ·simp[Op.equalIn,gS,n6 h,n5]
 ·split at he
  ·rename_i hk;subst hk
   simp only[Option.some.injEq]at he;subst he
   simp[Op.equalIn,gS,n6 h,n5]
  ·cases he
 ·simp[Op.equalIn,gS,n6 h,n5,beq_toListBytes]
def yo(P:Program)(xs ys:Array Value):List Field→Option Bool|[]=>some true|f::fs=>if f.name≠ "_" then match P.underlying f.type,xs[f.offset]?,ys[f.offset]? with|some D,some x,some y=>if fits D x then(Gi x y).bind fun b=>(yo P xs ys fs).map (b&&·)else none|_,_,_=>none else none
theorem R8{d:Nat}{xs ys:Array Value}:∀{fs:List Field}{b:Bool},yo P xs ys fs=some b→cZ P (Op.eqFields (d+1) xs ys fs)=some b|[],b,h=>by{simp[yo]at h;subst h;rfl}|f::fs,b,h=>by unfold yo at h;split at h;·{rename_i hn;split at h;·{rename_i D x y hD hx hy;split at h;·{rename_i hf;simp only[Option.bind_eq_some_iff,Option.map_eq_some_iff]at h;obtain⟨b1,h1,b2,h2,rfl⟩:=h;have hd:Ku D=true:=by{cases D<;>cases x<;>simp[fits]at hf<;>rfl};simp only[Op.eqFields];rw[if_pos hn];simp only[gS,R9 hD hd hx,R9 hD hd hy,Option.bind_some,ahm hD hf h1];cases b1;·{rfl};·simpa using R8 h2};·cases h};·cases h};·cases h
theorem Xz{t:TypeId}{x y:Operand}{xs ys:Array Value}{fs:Array Field}{b:Bool}(hf:P.underlying t=some (.struct fs))(hp:P.stoodInHeld t=false)(hm:P.eqGuardType P.depth t=false)(he:yo P xs ys fs.toList=some b):eS P .neq t x y (.agg xs) (.agg ys)=some (.bool (!b)):=by have e:P.fieldsOf t=fs:=by{unfold Program.fieldsOf;rw[hf]};unfold eS;have e1:cZ P (eqGuard .neq t x y (.agg xs) (.agg ys))=some ():=by{simp[eqGuard,gS,Ld,hm,n5]};rw[gS,e1,AC];simp only[binOp,Op.equal,Op.maxDepth];rw[gS,ahn 9999 t xs ys (by rw[e];exact hf) hp,e,R8 he];rfl
end
end Go.Ab
