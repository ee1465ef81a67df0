import Derived.Test.YtkmdadjmdgonbaaGreatDoorAbV12
import Derived.Test.YtkmdadjmdgonbaaGreatDoorAbIn
set_option linter.all false
namespace Go.Ab
open Go
abbrev HJ:=Nat->(Nat->Prop)->World->Prop
def MA(J:HJ):Prop:=∀i X Y W W',J i X W->Kept W W' (fun _=>False)->(∀b,Y b->(X b∨W.heap.size<=b)∧b<W'.heap.size)->J i Y W'
/-! ### Operations that defer nothing -/
def oy:Op->Bool| .move _| .assign _| .load _ _| .fieldAddr _ _ _| .indexAddr _ _ _| .binOp _ _ _ _ _| .unOp _ _ _| .field _ _ _| .extract _ _| .box _ _| .alloc _| .build _ _=>true| .call c=>(match c.callee with| .builtin .len=>true|_=>false)|_=>false
section
variable{C:aC}{f:FuncId}{call:gG}{J ud:HJ}{z:Option Nat}{S:ah}{a:Act}{W w:World}
/-! ### The walk -/
structure air(C:aC)(call:gG)(l:Nat)(ys:List (List U))(J ud:HJ):Prop where
 n:jJ C
 calls:∀k as r,call k as=some r->Sound C k as r
 j:MA J
 akJ:MA ud
 y:∀i X W vs y,J i X W->ys[i]? =some y->ay W X b8 [] vs y->YieldAt Fence.wide 0 C.P l ⟨vs⟩ W fun e W'=>((e= .returned (.bool true)∧J (i+1) X W')∨(e= .returned (.bool false)∧ud (i+1) X W'))∧∀b,X b->W'.heap[b]? =W.heap[b]?
end
section
variable{C:aC}{f:FuncId}{call:gG}{l:Nat}{ys:List (List U)}{z:Option Nat}{S:ah}{Q:Exit->Option Nat->ah->Prop}{c b:Code}{ops:Array Oper}{i n d:Nat}{os:List Oper}{K:Option Nat->ah->Prop}
variable{t:Nat->U}{h:Id->Option (Option Rows)}{op:Op}{ty:TypeId}{pos:String}{bl:Array Edge}{v:U}
end
open Go
/-! ### What it yields -/
/-! ### The iterator keeps its word -/
section
variable{C:aC}{f:FuncId}{call:gG}{l:Nat}{ys:List (List U)}{z:Option Nat}{Q:Exit->Option Nat->ah->Prop}{c:Code}{n:Nat}{t:Nat->U}{h:Id->Option (Option Rows)}
end
section
variable{C:aC}{k:FuncId}{fn:Func}{aiq aip aio aij aie ain:TypeId}{m off eE:Nat}{y0 y1 cw cR cH bY aO cp bT eu en mL sg ant anu oL gY eV jG si vK anv anw anx yH:TypeId}{dQ p1 p2 p3 jA nO x7 Du Rs Rt akZ ak0 ak1 ak2 ak3 ak4 ak5 ak6 ak7 ak8 ak9 ala alb alc ald:String}{f0 f1 f2 f3 f4 f5 f6 f7 f8 f9 f10 f11 f12 f13 f14 f15 f16 f17 f18 f19 f20 f21 f22 f23 f24:Array Edge}
end
open Go
end Go.Ab
