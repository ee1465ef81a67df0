import Derived.Test.YtbhpblokoecoaaaAbV4
namespace Go.Ab
open Go
def r4(m:Nat):Type:={r:List aa//(decide (r.length=m)&&r.all aa.cell&&dU r&&ey r)=true}
def r4.v{m:Nat}(r:r4 m):List aa:=r.1
theorem MQ{m:Nat}(r:r4 m):r.v.length=m∧r.v.all aa.cell=true∧dU r.v=true∧ey r.v=true:=by have:=r.2;simp only[Bool.and_eq_true,decide_eq_true_eq]at this;exact⟨this.1.1.1,this.1.1.2,this.1.2,this.2⟩
section
variable{C:aV}{f:FuncId}{fn:Func}{T e t1 t2:TypeId}{m:Nat}{bb:Bool}{fo:List aa}{sY p1 p2 p3 qi uV Dt QF:String}{f0 f1 f2 f3 f4 f5 f6 f7:Array Edge}{E:Env}
end
end Go.Ab
