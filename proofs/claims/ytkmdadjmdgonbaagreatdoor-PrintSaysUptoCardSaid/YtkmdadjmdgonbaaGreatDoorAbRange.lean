import Derived.Test.YtkmdadjmdgonbaaGreatDoorAbRound
open Nat renaming lt_of_lt_of_le->AC
set_option linter.all false
namespace Go.Ab
open Go
structure Bu(C:aC)(k:FuncId)(it:List U->Option (List (List U))):Prop where
 fn:∃fn c,C.P.funcs[k]? =some fn∧fn.body=some c
 ok:∀caps ys,it caps=some ys->∀(w0:World)(I:Nat->Prop)(cs:List Value),ay w0 I b8 [] cs caps->(∀b,I b->b<w0.heap.size)->(∀g cs,C.dW g=some cs->R w0 I b8 [] (.pointer (some ⟨g,0,none⟩)) (mV cs))->
  ∀(l:Nat)(J ud:Nat->(Nat->Prop)->World->Prop)(W:World),(∀b,I b->W.heap[b]? =w0.heap[b]?)->
   (∀i X Y W W',J i X W->Kept W W' (fun _=>False)->(∀b,Y b->(X b∨W.heap.size<=b)∧b<W'.heap.size)->J i Y W')->
   (∀i X Y W W',ud i X W->Kept W W' (fun _=>False)->(∀b,Y b->(X b∨W.heap.size<=b)∧b<W'.heap.size)->ud i Y W')->
   (∀i X W vs y,J i X W->ys[i]? =some y->ay W X b8 [] vs y->YieldAt Fence.wide 0 C.P l ⟨vs⟩ W fun e W'=>((e= .returned (.bool true)∧J (i+1) X W')∨(e= .returned (.bool false)∧ud (i+1) X W'))∧∀b,X b->W'.heap[b]? =W.heap[b]?)->
   J 0 I W->CallsIn Fence.wide 0 C.P k ⟨.func (.yield l) #[] #[]::cs⟩ W fun e W'=>(∃v,e= .returned v)∧((∃X,J ys.length X W')∨∃i X,ud i X W')
section
variable{C:aC}{E:Env}{w:World}{S:ah}{a:Act}{β:Id->Option Loc}{F:Id->List Nat}
theorem nw.put{I:Nat->Prop}{d0 ds:List Deferred}(h:nw w I d0 ds){l:Nat}{r:Loop}(hl:w.heap[l]? =some (.loop r))(o:Obj):nw (w.putObj l o) I d0 ds:=by obtain⟨gd,h1,h2,h3⟩:=h;refine⟨gd,h1,h2,fun D hD=>⟨?_,(h3 D hD).2⟩⟩;rw[World.putObj_heap_other];·{exact(h3 D hD).1};·intro e;subst e;rw[(h3 D hD).1]at hl;cases hl
theorem aK.grow(h:aK C E w S a β F){w':World}(hk:Kept w w' (fun _=>False)):aK C E w' S a β F:=by have hb:∀b,b<w.heap.size->w'.heap[b]? =w.heap[b]? :=fun b hb=>hk.blk b hb (fun h=>h);have hI:∀b,aF E w F b->aF E w' F b:=fun b h=>⟨h.1,AC h.2.1 hk.size,h.2.2⟩;have hz:=h.kept.size;exact{n:=h.n,df:=h.df.mono (fun b hb=>⟨hI b hb.1,hb.2⟩) (fun b hb'=>hb b hb'.1.2.1),slot:=fun t=>(h.slot t).mono hI (fun b hb'=>hb b (by rcases hb' with h1|h1<;>first|exact h1.2.1|cases h1)) (fun _ _ h=>h),obj:=fun id rows hr=>(h.obj id rows hr).mono hI (fun b hb'=>hb b (by rcases hb' with h1|h1;exact h1.2.1;exact(h.lt id b h1).1)) (fun _ _ h=>h),dead:=h.dead,nd:=h.nd,dM:=h.dM,dom:=h.dom,lt:=fun id b hm=>⟨AC (h.lt id b hm).1 hk.size,(h.lt id b hm).2⟩,kept:=⟨Nat.le_trans hz hk.size,fun b h1 h2=>(hb b (AC h1 hz)).trans (h.kept.blk b h1 h2),hk.os.trans h.kept.os,hk.out.trans h.kept.out,fun x hx=>(hk.gx x (AC hx hz)).trans (h.kept.gx x hx),fun b n hB=>hk.qR b n (h.kept.qR b n hB)⟩,dW:=fun g cs hg=>(h.dW g cs hg).mono hI (fun b hb'=>hb b (by rcases hb' with h1|h1<;>first|exact h1.2.1|cases h1)) (fun _ _ h=>h),ns:=h.ns,kb:=h.kb}
def yQ(l:List Nat)(v:Nat->Value)(a:Act):Prop:=∀j∈l,a.tmps.getD j undef=v j
end
end Go.Ab
