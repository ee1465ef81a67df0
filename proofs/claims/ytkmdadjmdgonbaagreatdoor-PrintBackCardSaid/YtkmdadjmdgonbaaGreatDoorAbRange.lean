import Derived.Test.YtkmdadjmdgonbaaGreatDoorAbRound
open Bool renaming true->bv,false->ci
open Option renaming some->ac,none->am
open Nat renaming lt_of_lt_of_le->AC
set_option linter.all false
namespace Go.Ab
open Go
structure Af(C:aH)(k:FuncId)(it:List U->Option (List (List U))):Prop where
 fn:∃fn c,C.P.funcs[k]? =ac fn∧fn.body=ac c
 ok:∀caps ys,it caps=ac ys->∀(w0:World)(I:Nat->Prop)(cs:List Value),aB w0 I cr [] cs caps->(∀b,I b->b<w0.heap.size)->(∀g cs,C.ez g=ac cs->R w0 I cr [] (.pointer (ac ⟨g,0,am⟩)) (nX cs))->
  ∀(l:Nat)(J vF:Nat->(Nat->Prop)->World->Prop)(W:World),(∀b,I b->W.heap[b]? =w0.heap[b]?)->
   (∀i X Y W W',J i X W->Kept W W' (λ_=>False)->(∀b,Y b->(X b∨W.heap.size<=b)∧b<W'.heap.size)->J i Y W')->
   (∀i X Y W W',vF i X W->Kept W W' (λ_=>False)->(∀b,Y b->(X b∨W.heap.size<=b)∧b<W'.heap.size)->vF i Y W')->
   (∀i X W vs y,J i X W->ys[i]? =ac y->aB W X cr [] vs y->YieldAt Fence.wide 0 C.P l ⟨vs⟩ W λe W'=>((e= .returned (.bool bv)∧J (i+1) X W')∨(e= .returned (.bool ci)∧vF (i+1) X W'))∧∀b,X b->W'.heap[b]? =W.heap[b]?)->
   J 0 I W->CallsIn Fence.wide 0 C.P k ⟨.func (.yield l) #[] #[]::cs⟩ W λe W'=>(∃v,e= .returned v)∧((∃X,J ys.length X W')∨∃i X,vF i X W')
section
variable{C:aH}{E:Env}{w:World}{S:ai}{a:Act}{β:Id->Option Loc}{F:Id->List Nat}
theorem nP.put{I:Nat->Prop}{d0 ds:List Deferred}(h:nP w I d0 ds){l:Nat}{r:Loop}(hl:w.heap[l]? =ac (.loop r))(o:Obj):nP (w.putObj l o) I d0 ds:=by obtain⟨gH,h1,h2,h3⟩:=h;refine⟨gH,h1,h2,λD hD=>⟨?_,(h3 D hD).2⟩⟩;rw[World.putObj_heap_other];·{exact(h3 D hD).1};·intro e;subst e;rw[(h3 D hD).1]at hl;cases hl
theorem aW.grow(h:aW C E w S a β F){w':World}(hk:Kept w w' (λ_=>False)):aW C E w' S a β F:=by have hb:∀b,b<w.heap.size->w'.heap[b]? =w.heap[b]? :=λb hb=>hk.blk b hb (λh=>h);have hI:∀b,aU E w F b->aU E w' F b:=λb h=>⟨h.1,AC h.2.1 hk.size,h.2.2⟩;have hz:=h.kept.size;exact{n:=h.n,df:=h.df.mono (λb hb=>⟨hI b hb.1,hb.2⟩) (λb hb'=>hb b hb'.1.2.1),slot:=λt=>(h.slot t).mono hI (λb hb'=>hb b (by rcases hb' with h1|h1<;>first|exact h1.2.1|cases h1)) (λ_ _ h=>h),obj:=λid rows hr=>(h.obj id rows hr).mono hI (λb hb'=>hb b (by rcases hb' with h1|h1;exact h1.2.1;exact(h.lt id b h1).1)) (λ_ _ h=>h),dead:=h.dead,nd:=h.nd,eJ:=h.eJ,dom:=h.dom,lt:=λid b hm=>⟨AC (h.lt id b hm).1 hk.size,(h.lt id b hm).2⟩,kept:=⟨Nat.le_trans hz hk.size,λb h1 h2=>(hb b (AC h1 hz)).trans (h.kept.blk b h1 h2),hk.os.trans h.kept.os,hk.out.trans h.kept.out,λx hx=>(hk.gu x (AC hx hz)).trans (h.kept.gu x hx),λb n hB=>hk.tK b n (h.kept.tK b n hB)⟩,ez:=λg cs hg=>(h.ez g cs hg).mono hI (λb hb'=>hb b (by rcases hb' with h1|h1<;>first|exact h1.2.1|cases h1)) (λ_ _ h=>h),ns:=h.ns,kb:=h.kb}
def Ag(l:List Nat)(v:Nat->Value)(a:Act):Prop:=∀j∈l,a.tmps.getD j undef=v j
end
end Go.Ab
