/-
  STEPS: maps.
-/
import Derived.Test.YtbhpblokoecoaaaAbV7
namespace Go.Ab
open Go
section
variable {K V : Type}
def mget (eq : K → K → Bool) : List (K × V) → K → Option V
  | [], _ => none
  | e :: l, k => if eq k e.1 then some e.2 else mget eq l k
def mput (eq : K → K → Bool) : List (K × V) → K → V → List (K × V)
  | [], k, v => [(k, v)]
  | e :: l, k, v => if eq k e.1 then (k, v) :: l else e :: mput eq l k v
end
def eqS (a b : ByteArray) : Bool := a == b
theorem eqS_iff {a b : ByteArray} : eqS a b = true ↔ a = b := ⟨ba_eq, fun h => by subst h; exact ba_rfl _⟩
class Ky {K : Type} (ek : K → Value) (kind : outParam TypeDesc) (eq : outParam (K → K → Bool)) : Prop where
  same : ∀ a b, Instr.sameNow kind (ek a) (ek b) = some (eq a b)
  sc : ∀ a, isSc (ek a) = true
class Sv {V : Type} (ev : V → Value) : Prop where
  sc : ∀ a, isSc (ev a) = true
def vI (n : Int) : Value := .int .i64 n
def vS (s : ByteArray) : Value := .string s
instance : Ky vS .string eqS := ⟨fun _ _ => rfl, fun _ => rfl⟩
instance : Sv vI := ⟨fun _ => rfl⟩
def mE {K V : Type} (ek : K → Value) (ev : V → Value) (e : K × V) : List AV := [.val (ek e.1), .val (ev e.2)]
section
variable {K V : Type} {ek : K → Value} {ev : V → Value} {kind : TypeDesc} {eq : K → K → Bool}
theorem findM_mget [hk : Ky ek kind eq] : ∀ (l : List (K × V)) (k : K), findM kind (ek k) (l.map (mE ek ev)) = some ((mget eq l k).map ev)
  | [], _ => rfl
  | e :: l, k => by
    simp only [List.map_cons, mE, findM, hk.same, mget]
    cases h : eq k e.1 with
    | true => rfl
    | false => simpa [mE] using findM_mget l k
theorem putM_mput [hk : Ky ek kind eq] : ∀ (l : List (K × V)) (k : K) (v : V), putM kind (ek k) (ev v) (l.map (mE ek ev)) = some ((mput eq l k v).map (mE ek ev))
  | [], _, _ => rfl
  | e :: l, k, v => by
    simp only [List.map_cons, mE, putM, hk.same, mput]
    cases h : eq k e.1 with
    | true => rfl
    | false =>
      have := putM_mput l k v
      simp [this, mE]
end
class Mt (C : Cx) (T : TypeId) (kind : outParam TypeDesc) (z : outParam Value) : Prop where mt : mapT C T = some (kind, z)
section
variable {C : Cx} {f : FuncId} {call : FuncId → List AV → Option (AV × List AV)} {S : St} {g : Bool}
variable {d : Nat} {ty : TypeId} {pos : String} {af : Array Edge} {gd : Option (Nat × Bool)} {x y z : Operand} {T : TypeId}
variable {K V : Type} {ek : K → Value} {ev : V → Value} {kind : TypeDesc} {eq : K → K → Bool} {zv : V} {l : List (K × V)} {k : K} {v : V} {id : Id}
theorem oMkMap {z0 : Value} [hm : Mt C T kind z0] (hf : S.h [d] = none := by exact rfl) : evOp C f call S g ⟨some d, .makeMap T none, ty, pos, af, gd⟩ = some ⟨[(d, .mr [d])], [], [([d], some [])]⟩ := by
  show evMakeMap C S _ T none = _
  simp [evMakeMap, hm.mt, hf, put]
theorem oLk [hm : Mt C T kind (ev zv)] [hk : Ky ek kind eq] (hx : un g (S.get C x) = .mr id := by first | exact rfl | exact gvv) (hh : S.h id = some (some (l.map (mE ek ev))) := by exact rfl) (hy : un g (S.get C y) = .val (ek k) := by first | exact rfl | exact gvv) :
    evOp C f call S g ⟨some d, .lookup T x y true, ty, pos, af, gd⟩ = some ⟨[(d, .tup [.val (ev ((mget eq l k).getD zv)), B (mget eq l k).isSome])], [id], []⟩ := by
  show evLookup C S _ T (un g (S.get C x)) (un g (S.get C y)) true = _
  rw [hx, hy]
  simp only [evLookup, hm.mt, mapRows, hh, findM_mget]
  cases mget eq l k <;> rfl
theorem oLkI [hm : Mt C T kind (ev zv)] [hk : Ky ek kind eq] (hx : un g (S.get C x) = .im (l.map (mE ek ev)) := by first | exact rfl | exact gvv) (hy : un g (S.get C y) = .val (ek k) := by first | exact rfl | exact gvv) :
    evOp C f call S g ⟨some d, .lookup T x y true, ty, pos, af, gd⟩ = some ⟨[(d, .tup [.val (ev ((mget eq l k).getD zv)), B (mget eq l k).isSome])], [], []⟩ := by
  show evLookup C S _ T (un g (S.get C x)) (un g (S.get C y)) true = _
  rw [hx, hy]
  simp only [evLookup, hm.mt, mapRows, findM_mget]
  cases mget eq l k <;> rfl
theorem oPut {z0 : Value} [hm : Mt C T kind z0] [hk : Ky ek kind eq] [hv : Sv ev] (hx : un g (S.get C x) = .mr id := by first | exact rfl | exact gvv) (hh : S.h id = some (some (l.map (mE ek ev))) := by exact rfl) (hy : un g (S.get C y) = .val (ek k) := by first | exact rfl | exact gvv) (hz : un g (S.get C z) = .val (ev v) := by first | exact rfl | exact gvv) :
    evOp C f call S g ⟨none, .mapUpdate T x y z, ty, pos, af, gd⟩ = some ⟨[], [id], [(id, some ((mput eq l k v).map (mE ek ev)))]⟩ := by
  show evMapUpdate C S _ T (un g (S.get C x)) (un g (S.get C y)) (un g (S.get C z)) = _
  rw [hx, hy, hz]
  simp [evMapUpdate, hm.mt, hh, putM_mput, hk.sc, hv.sc, put]
end
end Go.Ab
