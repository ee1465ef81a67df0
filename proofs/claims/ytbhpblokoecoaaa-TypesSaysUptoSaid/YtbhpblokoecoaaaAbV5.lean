/-
  STEPS: strings set together and compared; quotients; bits; numbers of one kind turned into another.
-/
import Derived.Test.YtbhpblokoecoaaaAbV4
namespace Go.Ab
open Go
section
variable {C : Cx} {f : FuncId} {call : CallT} {S : St} {g : Bool}
variable {d : Nat} {ty : TypeId} {pos : String} {af : Array Edge} {gd : Option (Nat × Bool)} {v v' : AV}
variable {x y z : Operand} {k k' : IntKind} {a b : Int} {T U : TypeId}
end
end Go.Ab
