import Derived.Test.YtbbhbdlljfffdaaGreatDoorAbV4
set_option linter.all false
namespace Go.Ab
open Go
/-! ### Operations -/
section
variable{C:av}{f:FuncId}{call:eT}{S:ah}{g:Bool}
variable{d:Nat}{ty:TypeId}{pos:String}{aD:Array Edge}{aS:Option (Nat×Bool)}{v v':U}
variable{x y z:Operand}{k:IntKind}{a b:Int}{T bP:TypeId}
end
/-! ### At a function's end -/
section
variable{C:av}{S:ah}{rv:List ResultVar}{bR:List Nat}{vs outs:List U}{ids is:List Id}{r:U}
theorem aZ(h:iH C S rv=some ([r],ids):=by exact GJ)(hp:gR S.h S.t bR=some (outs,is):=by exact B9)(hn:cY (ids++is)=true:=by exact rfl):Fin C rv bR r outs (.ret,S):=⟨.inl rfl,[r],ids,is,h,hp,hn,rfl⟩
theorem bw{a b:U}(h:iH C S rv=some (a::b::vs,ids):=by exact GJ)(hp:gR S.h S.t bR=some (outs,is):=by exact B9)(hn:cY (ids++is)=true:=by exact rfl):Fin C rv bR (.aG (a::b::vs)) outs (.ret,S):=⟨.inl rfl,_,ids,is,h,hp,hn,rfl⟩
end
end Go.Ab
