import Derived.Test.YtbbhbdlljfffdaaGreatDoorAbV12
import Derived.Test.YtbbhbdlljfffdaaGreatDoorAbIn
set_option linter.all false
namespace Go.Ab
open Go
abbrev JN:=Nat->(Nat->Prop)->World->Prop
def OM(J:JN):Prop:=∀i X Y W W',J i X W->Kept W W' (fun _=>False)->(∀b,Y b->(X b∨W.heap.size<=b)∧b<W'.heap.size)->J i Y W'
/-! ### Operations that defer nothing -/
def qq:Op->Bool| .move _| .assign _| .load _ _| .fieldAddr _ _ _| .indexAddr _ _ _| .binOp _ _ _ _ _| .unOp _ _ _| .field _ _ _| .extract _ _| .box _ _| .alloc _| .build _ _=>true| .call c=>(match c.callee with| .builtin .len=>true|_=>false)|_=>false
section
variable{C:aF}{f:FuncId}{call:gK}{J wo:JN}{z:Option Nat}{S:aj}{a:Act}{W w:World}
/-! ### The walk -/
structure amF(C:aF)(call:gK)(l:Nat)(ys:List (List U))(J wo:JN):Prop where
 n:kV C
 calls:∀k as r,call k as=some r->Sound C k as r
 j:OM J
 ao3:OM wo
 y:∀i X W vs y,J i X W->ys[i]? =some y->ay W X cm [] vs y->YieldAt Fence.wide 0 C.P l ⟨vs⟩ W fun e W'=>((e= .returned (.bool true)∧J (i+1) X W')∨(e= .returned (.bool false)∧wo (i+1) X W'))∧∀b,X b->W'.heap[b]? =W.heap[b]?
end
section
variable{C:aF}{f:FuncId}{call:gK}{l:Nat}{ys:List (List U)}{z:Option Nat}{S:aj}{Q:Exit->Option Nat->aj->Prop}{c b:Code}{ops:Array Oper}{i n d:Nat}{os:List Oper}{K:Option Nat->aj->Prop}
variable{t:Nat->U}{h:Id->Option (Option Rows)}{op:Op}{ty:TypeId}{pos:String}{bt:Array Edge}{v:U}
end
open Go
/-! ### What it yields -/
/-! ### The iterator keeps its word -/
section
variable{C:aF}{f:FuncId}{call:gK}{l:Nat}{ys:List (List U)}{z:Option Nat}{Q:Exit->Option Nat->aj->Prop}{c:Code}{n:Nat}{t:Nat->U}{h:Id->Option (Option Rows)}
end
section
variable{C:aF}{k:FuncId}{fn:Func}{amE amD amC amA amw amB:TypeId}{m off en:Nat}{y0 y1 bT bB bX bZ bC b9 cj e7 eJ eN lO ym yo qz mo jc nI um yp arX arY arZ ar0:TypeId}{jX p1 p2 p3 jY l8 vu Aj TX TY apn apo apq apr aps apt apu apv apw apx apy apz apA apB apC:String}{f0 f1 f2 f3 f4 f5 f6 f7 f8 f9 f10 f11 f12 f13 f14 f15 f16 f17 f18 f19 f20 f21 f22 f23 f24:Array Edge}
end
open Go
end Go.Ab
