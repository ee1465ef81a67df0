/-
  A slice's copy: slices.Clone compares its argument with nil, which the machine does not know; both ways end in the same.
-/
import Derived.Test.YtbhpblokoecoaaaAbV4
namespace Go.Ab
open Go
def CRow (m : Nat) : Type := {r : List AV // (decide (r.length = m) && r.all AV.cell && immL r && flatL r) = true}
def CRow.v {m : Nat} (r : CRow m) : List AV := r.1
theorem crow_h {m : Nat} (r : CRow m) : r.v.length = m ∧ r.v.all AV.cell = true ∧ immL r.v = true ∧ flatL r.v = true := by
  have := r.2
  simp only [Bool.and_eq_true, decide_eq_true_eq] at this
  exact ⟨this.1.1.1, this.1.1.2, this.1.2, this.2⟩
section
variable {C : Cx} {f : FuncId} {fn : Func} {T e t1 t2 : TypeId} {m : Nat} {bb : Bool} {zc : List AV} {p0 p1 p2 p3 p4 p5 p6 p7 : String} {f0 f1 f2 f3 f4 f5 f6 f7 : Array Edge} {E : Env}
end
end Go.Ab
