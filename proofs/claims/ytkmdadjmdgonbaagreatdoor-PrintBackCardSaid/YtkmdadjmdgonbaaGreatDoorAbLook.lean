import Derived.Test.YtkmdadjmdgonbaaGreatDoorAbV12
import Derived.Test.YtkmdadjmdgonbaaGreatDoorAbIn
open Bool renaming true->bv,false->ci
open Option renaming some->ac,none->am
set_option linter.all false
namespace Go.Ab
open Go
abbrev Jc:=Nat->(Nat->Prop)->World->Prop
def Ow(J:Jc):Prop:=∀i X Y W W',J i X W->Kept W W' (λ_=>False)->(∀b,Y b->(X b∨W.heap.size<=b)∧b<W'.heap.size)->J i Y W'
/-! ### Operations that defer nothing -/
def pM:Op->Bool| .move _| .assign _| .load _ _| .fieldAddr _ _ _| .indexAddr _ _ _| .binOp _ _ _ _ _| .unOp _ _ _| .field _ _ _| .extract _ _| .box _ _| .alloc _| .build _ _=>bv| .call c=>(match c.callee with| .builtin .len=>bv|_=>ci)|_=>ci
section
variable{C:aH}{f:FuncId}{call:gB}{J vF:Jc}{z:Option Nat}{S:ai}{a:Act}{W w:World}
/-! ### The walk -/
structure ang(C:aH)(call:gB)(l:Nat)(ys:List (List U))(J vF:Jc):Prop where
 n:ke C
 calls:∀k as r,call k as=ac r->Sound C k as r
 j:Ow J
 apl:Ow vF
 y:∀i X W vs y,J i X W->ys[i]? =ac y->aB W X cr [] vs y->YieldAt Fence.wide 0 C.P l ⟨vs⟩ W λe W'=>((e= .returned (.bool bv)∧J (i+1) X W')∨(e= .returned (.bool ci)∧vF (i+1) X W'))∧∀b,X b->W'.heap[b]? =W.heap[b]?
end
section
variable{C:aH}{f:FuncId}{call:gB}{l:Nat}{ys:List (List U)}{z:Option Nat}{S:ai}{Q:Exit->Option Nat->ai->Prop}{c b:Code}{ops:Array Oper}{i n d:Nat}{os:List Oper}{K:Option Nat->ai->Prop}
variable{t:Nat->U}{h:Id->Option (Option Rows)}{op:Op}{ty:TypeId}{pos:String}{bl:Array Edge}{v:U}
end
open Go
/-! ### What it yields -/
/-! ### The iterator keeps its word -/
section
variable{C:aH}{f:FuncId}{call:gB}{l:Nat}{ys:List (List U)}{z:Option Nat}{Q:Exit->Option Nat->ai->Prop}{c:Code}{n:Nat}{t:Nat->U}{h:Id->Option (Option Rows)}
end
section
variable{C:aH}{k:FuncId}{fn:Func}{Js anf ane anb am7 anc:TypeId}{m off fk:Nat}{y0 y1 b7 b6 dN cL bN bM bR eP eW fS j7 xG xH pS lX lY qN tS xI ar9 asa asb asc:TypeId}{gy p1 p2 p3 lM ob ER ES apW apX apH apI apJ apK apL apM apN apO apP apQ apR apS apT apU apV:String}{f0 f1 f2 f3 f4 f5 f6 f7 f8 f9 f10 f11 f12 f13 f14 f15 f16 f17 f18 f19 f20 f21 f22 f23 f24:Array Edge}
end
open Go
end Go.Ab
