import Derived.Test.YtbbhbdlljfffdaaGreatDoorAbV4
set_option linter.all false
namespace Go.Ab
open Go
/-! ### Operations -/
section
variable{C:aB}{f:FuncId}{call:eV}{S:ah}{g:Bool}
variable{d:Nat}{ty:TypeId}{pos:String}{aM:Array Edge}{bp:Option (Nat×Bool)}{v v':U}
variable{x y z:Operand}{k:IntKind}{a b:Int}{T cM:TypeId}
end
/-! ### At a function's end -/
section
variable{C:aB}{S:ah}{rv:List ResultVar}{bL:List Nat}{vs outs:List U}{ids is:List Id}{r:U}
theorem bA(h:iD C S rv=some ([r],ids):=by exact Ew)(hp:gQ S.h S.t bL=some (outs,is):=by exact Ag)(hn:de (ids++is)=true:=by exact rfl):Fin C rv bL r outs (.ret,S):=⟨.inl rfl,[r],ids,is,h,hp,hn,rfl⟩
theorem bX{a b:U}(h:iD C S rv=some (a::b::vs,ids):=by exact Ew)(hp:gQ S.h S.t bL=some (outs,is):=by exact Ag)(hn:de (ids++is)=true:=by exact rfl):Fin C rv bL (.aE (a::b::vs)) outs (.ret,S):=⟨.inl rfl,_,ids,is,h,hp,hn,rfl⟩
end
end Go.Ab
