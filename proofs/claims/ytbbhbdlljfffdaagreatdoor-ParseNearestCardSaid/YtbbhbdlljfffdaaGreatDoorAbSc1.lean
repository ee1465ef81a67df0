import Derived.Test.YtbbhbdlljfffdaaGreatDoorAbGens
set_option linter.all false
namespace Go.Ab
open Go
def run{σ cC α:Type}(f:Nat→σ→α→cC⊕σ)(e:σ→cC):Nat→σ→List α→cC|_,s,[]=>e s|i,s,x::l=>match f i s x with| .inl o=>o| .inr s'=>run f e (i+1) s' l
end Go.Ab
namespace Go.Ab
open Go Go.Proofs
@[simp]theorem aaA{cC ρ β:Type}(f:cC→Option β)(g:ρ→Option β)(x:cC):dy.go f g (.jx x)=f x:=rfl
@[simp]theorem go_ret{cC ρ β:Type}(f:cC→Option β)(g:ρ→Option β)(x:ρ):dy.go f g (.ret x)=g x:=rfl
@[simp]theorem ZG(a b:Int):jz a b=some ⟨a,b⟩:=rfl
/-! ### Names -/
end Go.Ab
namespace Go.Ab
open Go Go.Proofs
/-! ### Numbers -/
end Go.Ab
namespace Go.Ab
open Go Go.Proofs
end Go.Ab
namespace Go.Ab
open Go Go.Proofs
abbrev AM:=List aX
def nd(N:AM)(k:Nat):aX:=N.getD k default
def FA(N:AM):Nat→Nat→Nat|0,_=>0|f+1,k=>((nd N k).Kids.map fun x=>FA N f x.toNat).foldl max 0+1
def D(N:AM)(k:Nat):Nat:=FA N (k+1) k
/-! ### What is wrong with a node -/
end Go.Ab
namespace Go.Ab
open Go Go.Proofs
end Go.Ab
namespace Go.Ab
open Go Go.Proofs
end Go.Ab
namespace Go.Ab
open Go Go.Proofs
end Go.Ab
namespace Go.Ab
open Go Go.Proofs
/-! ### Where kids stand -/
end Go.Ab
