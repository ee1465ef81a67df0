import Derived.Test.YtbbhbdlljfffdaaGreatDoorAbV12
import Derived.Test.YtbbhbdlljfffdaaGreatDoorAbIn
set_option linter.all false
namespace Go.Ab
open Go
abbrev KR:=Nat->(Nat->Prop)->World->Prop
def Qt(J:KR):Prop:=∀i X Y W W',J i X W->Kept W W' (fun _=>False)->(∀b,Y b->(X b∨W.heap.size<=b)∧b<W'.heap.size)->J i Y W'
/-! ### Operations that defer nothing -/
def qy:Op->Bool| .move _| .assign _| .load _ _| .fieldAddr _ _ _| .indexAddr _ _ _| .binOp _ _ _ _ _| .unOp _ _ _| .field _ _ _| .extract _ _| .box _ _| .alloc _| .build _ _=>true| .call c=>(match c.callee with| .builtin .len=>true|_=>false)|_=>false
section
variable{C:aE}{f:FuncId}{call:gF}{J wR:KR}{z:Option Nat}{S:ai}{a:Act}{W w:World}
/-! ### The walk -/
structure aps(C:aE)(call:gF)(l:Nat)(ys:List (List U))(J wR:KR):Prop where
 n:kH C
 calls:∀k as r,call k as=some r->Sound C k as r
 j:Qt J
 arK:Qt wR
 y:∀i X W vs y,J i X W->ys[i]? =some y->ay W X b6 [] vs y->YieldAt Fence.wide 0 C.P l ⟨vs⟩ W fun e W'=>((e= .returned (.bool true)∧J (i+1) X W')∨(e= .returned (.bool false)∧wR (i+1) X W'))∧∀b,X b->W'.heap[b]? =W.heap[b]?
end
section
variable{C:aE}{f:FuncId}{call:gF}{l:Nat}{ys:List (List U)}{z:Option Nat}{S:ai}{Q:Exit->Option Nat->ai->Prop}{c b:Code}{ops:Array Oper}{i n d:Nat}{os:List Oper}{K:Option Nat->ai->Prop}
variable{t:Nat->U}{h:Id->Option (Option Rows)}{op:Op}{ty:TypeId}{pos:String}{bg:Array Edge}{v:U}
end
open Go
/-! ### What it yields -/
/-! ### The iterator keeps its word -/
section
variable{C:aE}{f:FuncId}{call:gF}{l:Nat}{ys:List (List U)}{z:Option Nat}{Q:Exit->Option Nat->ai->Prop}{c:Code}{n:Nat}{t:Nat->U}{h:Id->Option (Option Rows)}
end
section
variable{C:aE}{k:FuncId}{fn:Func}{apr apq apo apm apg apn:TypeId}{m off ef:Nat}{y0 y1 bX bE cJ ct cC cu cG e8 fU fV od yO yP qK mh mj r3 uP yQ auE auF auG auH:TypeId}{kr p1 p2 p3 lZ oL Ge Gf asj asl ar4 ar5 ar6 ar7 ar8 ar9 asa asb asc asd ase asf asg ash asi:String}{f0 f1 f2 f3 f4 f5 f6 f7 f8 f9 f10 f11 f12 f13 f14 f15 f16 f17 f18 f19 f20 f21 f22 f23 f24:Array Edge}
end
open Go
end Go.Ab
