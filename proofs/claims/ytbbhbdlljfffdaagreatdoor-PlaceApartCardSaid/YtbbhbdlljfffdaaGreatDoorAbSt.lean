import Derived.Test.YtbbhbdlljfffdaaGreatDoorAbRel
import Derived.Laws.Append
import Derived.Laws.Cells
import Derived.Laws.Rows
import Derived.Laws.World
open Array renaming getElem?_setIfInBounds→Hb,getElem?_eq_none→Hd,ext_getElem?→Hk
open List renaming mem_cons_self→GE,length_take→Ha,length_append→Hm,getElem?_append_left→Hn,getElem?_append_right→H0,mem_cons_of_mem→H1,length_cons→H2
open Nat renaming lt_of_lt_of_le→GT,lt_or_ge→Hc
set_option linter.all false
namespace Go.Ab
open Go
/-! ### Words on worlds -/
theorem l5(b o n:Nat):(⟨b,o,none⟩:Addr).add n=⟨b,o+n,none⟩:=by unfold Addr.add;split<;>simp_all
def over(c:Array Value)(p:Nat)(vs:List Value):Array Value:=⟨c.toList.take p++vs++c.toList.drop (p+vs.length)⟩
def jG(w:World)(b:Nat)(o:Obj):World:={w with heap:=w.heap.setIfInBounds b o}
theorem G4(c:Array Value)(p:Nat)(vs:List Value)(h:p+vs.length≤c.size):(over c p vs).size=c.size:=by have:c.toList.length=c.size:=by{simp};simp only[over,List.size_toArray,Hm,Ha,List.length_drop];omega
theorem S6(c:Array Value)(p:Nat):over c p []=c:=by apply Array.ext';simp[over]
theorem xZ(c:Array Value)(p k:Nat)(vs:List Value)(h:p+vs.length≤c.size):(over c p vs)[k]? =if p≤k∧k<p+vs.length then vs[k-p]? else c[k]? :=by have hl:c.toList.length=c.size:=by{simp};have e:(over c p vs)[k]? =(c.toList.take p++vs++c.toList.drop (p+vs.length))[k]? :=by{simp[over]};rw[e];have e2:c[k]? =c.toList[k]? :=by{simp};by_cases h1:k<p;·{rw[Do (by omega),List.append_assoc,Hn (by simp;omega),List.getElem?_take_of_lt h1,e2]};·by_cases h2:k<p+vs.length;·{rw[AC ⟨by omega,h2⟩,Hn (by simp;omega),H0 (by simp;omega)];simp only[Ha];congr 1;omega};·rw[Do (by omega),H0 (by simp;omega),List.getElem?_drop,e2];simp only[Hm,Ha];congr 1;omega
theorem A2{w:World}{b:Nat}{o:Obj}(h:b<w.heap.size)(k:Nat):(jG w b o).heap[k]? =if k=b then some o else w.heap[k]? :=by simp only[jG,Hb];by_cases hk:k=b;·{subst hk;simp[h]};·rw[Do (fun e=>hk e.symm),Do hk]
theorem aj5{w:World}{b:Nat}{o:Obj}(h:w.heap[b]? =some o):jG w b o=w:=by have hb:b<w.heap.size:=by{rcases Hc b w.heap.size with h'|h';·{exact h'};·simp[Hd h']at h};have e:w.heap.setIfInBounds b o=w.heap:=by{apply Hk ;intro k;rw[Hb];split;·{subst_vars;simp_all};·rfl};simp[jG,e]
theorem lt_of_heap{w:World}{b:Nat}{o:Obj}(h:w.heap[b]? =some o):b<w.heap.size:=by rcases Hc b w.heap.size with h'|h';·{exact h'};·simp[Hd h']at h
theorem setCell_eq{w:World}{b o:Nat}{c:Array Value}{e:TypeId}{fr:Nat×Nat}(h:w.heap[b]? =some (.cells c e fr))(v:Value):w.setCell ⟨b,o,none⟩ v=jG w b (.cells (c.setIfInBounds o v) e fr):=by have hb:=lt_of_heap h;have e1:(w.setCell ⟨b,o,none⟩ v).heap=(jG w b (.cells (c.setIfInBounds o v) e fr)).heap:=by{apply Hk ;intro k;rw[A2 hb];simp only[World.setCell,Array.getElem?_modify];by_cases hk:b=k;·{subst hk;simp[h]};·rw[Do hk,Do (fun e=>hk e.symm)]};unfold jG at e1⊢;unfold World.setCell at e1⊢;simp only at e1;rw[e1]
def p0(v:Value):Bool:=match v with| .agg _| .tuple _=>false|_=>true
theorem Um(P:Program)(b o:Nat)(e:TypeId):∀(vs:List Value)(i:Nat)(w:World)(c:Array Value),w.heap[b]? =some (.cells c e (0,0))→o+i+vs.length≤c.size→(∀v∈vs,p0 v=true)→(storeCells ⟨b,o,none⟩ vs i).run P w= .ok () (jG w b (.cells (over c (o+i) vs) e (0,0))):=by intro vs;induction vs with|nil=>(intro i w c h _ _;rw[S6,aj5 h];rfl)|cons v vs ih=>intro i w c h hl hp;have hv:=hp v (GE ..);have hb:=lt_of_heap h;have hc:w.cell? ⟨b,o+i,none⟩=some (c[o+i]'(by simp at hl;omega)):=by{rw[cell_of_row w b (o+i) c e (0,0) h,Array.getElem?_eq_getElem]};have hf:w.frozen? ⟨b,o+i,none⟩=false:=frozen_of_row w b (o+i) c e h;have hst:(store ⟨b,o+i,none⟩ v).run P w= .ok () (jG w b (.cells (c.setIfInBounds (o+i) v) e (0,0))):=by{rw[←setCell_eq h];unfold Go.store;cases v<;>simp_all[Sem.run,p0]};have hg:(jG w b (.cells (c.setIfInBounds (o+i) v) e (0,0))).heap[b]? =some (.cells (c.setIfInBounds (o+i) v) e (0,0)):=by{rw[A2 hb,AC rfl]};have:=ih (i+1) _ _ hg (by simp at hl⊢;omega) (fun v hv=>hp v (H1 _ hv));have e0:storeCells ⟨b,o,none⟩ (v::vs) i=(do store ((⟨b,o,none⟩:Addr).add i) v;storeCells ⟨b,o,none⟩ vs (i+1)):=rfl;rw[e0,Sem.run_bind,l5,hst,Result.andThen_ok,this];congr 1;have e2:over (c.setIfInBounds (o+i) v) (o+(i+1)) vs=over c (o+i) (v::vs):=by{apply Hk ;intro k;rw[xZ _ _ _ _ (by simp at hl⊢;omega),xZ _ _ _ _ (by simp at hl⊢;omega),Hb];simp only[H2];by_cases h1:k=o+i;·{subst h1;simp only[H2]at hl;rw[Do (by omega),AC rfl,AC (by omega),AC (by omega)];simp};·by_cases h2:o+i<k∧k<o+i+(vs.length+1);·{rw[AC (by omega),AC (by omega),show k-(o+i)=(k-(o+(i+1)))+1 by omega,List.getElem?_cons_succ]};·rw[Do (by omega),Do (by omega),Do (by omega)]};rw[e2];unfold jG;simp[Array.setIfInBounds_setIfInBounds]
/-! ### A state -/
structure Env where
 w0:World
 e7:Nat→Prop
 cR:Nat→Prop
 m:Nat
 le:m≤w0.heap.size
 K:Id→Prop:=fun _=>False
 uU:Id→Option Loc:=fun _=>none
 uV:∀i,K i→jU i=true:=by exact fun _ h=>h.elim
 ds:List Deferred:=[]
structure Kept(w0 w:World)(e7:Nat→Prop):Prop where
 size:w0.heap.size≤w.heap.size
 blk:∀b,b<w0.heap.size→¬e7 b→w.heap[b]? =w0.heap[b]?
 os:w.os=w0.os
 out:w.output=w0.output
 eF:∀a,a.block<w0.heap.size→w.frozen? a=w0.frozen? a
 nk:∀b n,gr w0 b n→gr w b n
theorem Kept.refl(w:World)(F:Nat→Prop):Kept w w F:=⟨Nat.le_refl _,fun _ _ _=>rfl,rfl,rfl,fun _ _=>rfl,fun _ _ h=>h⟩
def aD(E:Env)(w:World)(F:Id→List Nat)(b:Nat):Prop:=(E.cR b∨E.e7 b∨E.w0.heap.size≤b)∧b<w.heap.size∧∀id,b∉F id
def dU(w:World)(I:Nat→Prop)(β:Id→Option Loc)(id:Id)(rows:Rows)(fp:List Nat):Prop:=(β id=some .nil∧rows=[]∧fp=[])∨(∃b,β id=some (.map b)∧fp=[b]∧nx w b rows)∨∃b o sz n vs cO,β id=some (.blk b o sz n)∧fp=b::cO∧gr w b n∧(rows≠[]∧∀r∈rows,r.length=sz)∧o+rows.length*sz≤n∧fC w b o vs∧av w I β cO vs rows.flatten
theorem dU.mono{w:World}{I:Nat→Prop}{β:Id→Option Loc}{id:Id}{rows:Rows}{fp:List Nat}(h:dU w I β id rows fp){w':World}{I':Nat→Prop}{β':Id→Option Loc}(hI:∀b,I b→I' b)(hw:∀b,(I b∨b∈fp)→w'.heap[b]? =w.heap[b]?)(bN:∀i l,β i=some l→β' i=some l):dU w' I' β' id rows fp:=by rcases h with⟨h1,h2,h3⟩|⟨b,h1,rfl,h3⟩|⟨b,o,sz,n,vs,cO,h1,rfl,h3,h4,h5,h6,h7⟩;·{exact .inl ⟨bN _ _ h1,h2,h3⟩};·{exact .inr (.inl ⟨b,bN _ _ h1,rfl,h3.mono (hw _ (.inr (GE ..)))⟩)};·exact .inr (.inr ⟨b,o,sz,n,vs,cO,bN _ _ h1,rfl,h3.mono (hw _ (.inr (GE ..))),h4,h5,h6.mono (hw _ (.inr (GE ..))),h7.mono hI (fun x hx=>hw x (hx.imp _root_.id fun h=>H1 _ h)) bN⟩)
theorem dU.isSome{w:World}{I:Nat→Prop}{β:Id→Option Loc}{id:Id}{rows:Rows}{fp:List Nat}(h:dU w I β id rows fp):∃l,β id=some l:=by rcases h with⟨h,_⟩|⟨b,h,_⟩|⟨b,o,sz,n,vs,cO,h,_⟩<;>exact⟨_,h⟩
def u0(D:Nat):Deferred:={target:= .collected D,args:= #[]}
def jn(w:World)(I:Nat→Prop)(d0 ds:List Deferred):Prop:=∃gu:List Nat,ds=gu.map u0++d0∧gu.Nodup∧∀D∈gu,w.heap[D]? =some (.deferred (some []))∧I D
theorem jn.nil{w:World}{I:Nat→Prop}{d0:List Deferred}:jn w I d0 d0:=⟨[],rfl,List.nodup_nil,by simp⟩
theorem jn.mono{w w':World}{I I':Nat→Prop}{d0 ds:List Deferred}(h:jn w I d0 ds)(hI:∀b,I b→I' b)(hw:∀b,I b→w'.heap[b]? =w.heap[b]?):jn w' I' d0 ds:=by obtain⟨gu,h1,h2,h3⟩:=h;exact⟨gu,h1,h2,fun D hD=>⟨(hw D (h3 D hD).2).trans (h3 D hD).1,hI D (h3 D hD).2⟩⟩
structure aP(C:aL)(E:Env)(w:World)(S:ah)(a:Act)(β:Id→Option Loc)(F:Id→List Nat):Prop where
 n:a.tmps.size=S.n
 df:jn w (fun b=>aD E w F b∧E.m≤b) E.ds a.defers
 slot:∀t,R w (aD E w F) β [] (a.tmps.getD t undef) (S.t t)
 obj:∀id rows,S.h id=some (some rows)→dU w (aD E w F) β id rows (F id)
 dead:∀id,(∀rows,S.h id≠some (some rows))→F id=[]
 nd:∀id,(F id).Nodup
 dc:∀i j b,b∈F i→b∈F j→i=j
 dom:∀id,S.h id=none→β id=none
 lt:∀id b,b∈F id→b<w.heap.size∧(E.e7 b∨E.w0.heap.size≤b)
 kept:Kept E.w0 w E.e7
 cD:∀g cs,C.cD g=some cs→R w (aD E w F) β [] (.pointer (some ⟨g,0,none⟩)) (.aA cs)
 ns:∀t,t<S.n→∀q,¬E.K (q++[t])
 kb:∀k rows,E.K k→S.h k=some (some rows)→β k=E.uU k
def j8(E:Env)(S S':ah):Prop:=∀k rows,E.K k→S'.h k=some (some rows)→∃vp,S.h k=some (some vp)
theorem j8.refl{E:Env}{S S':ah}(h:S'.h=S.h):j8 E S S':=fun k rows _ hr=>⟨rows,h▸hr⟩
theorem put_defers(a:Act)(d:Option Tmp)(v:Value):(a.put d v).defers=a.defers:=by cases d<;>rfl
theorem uh{w w':World}(hold:∀b,b<w.heap.size→w'.heap[b]? =w.heap[b]?):∀b n,gr w b n→gr w' b n:=fun b n hB=>by refine hB.mono (hold b ?_);obtain⟨c,e,hc,_⟩:=hB;rcases Hc b w.heap.size with h|h;·{exact h};·rw[Hd h]at hc;cases hc
theorem aP.A7{C:aL}{E:Env}{w:World}{S:ah}{a:Act}{β:Id→Option Loc}{F:Id→List Nat}(h:aP C E w S a β F){w':World}{S':ah}{a':Act}{β':Id→Option Loc}{F':Id→List Nat}(ch:Id→Prop)(hn:a'.tmps.size=S'.n)(hsz:w.heap.size≤w'.heap.size)(hos:w'.os=w.os)(hout:w'.output=w.output)(uI:∀x,x.block<w.heap.size→w'.frozen? x=w.frozen? x)(hw:∀b,b<w.heap.size→(∀id,ch id→b∉F id)→w'.heap[b]? =w.heap[b]?)(bN:∀i l,β i=some l→β' i=some l)(hF:∀id b,b∈F' id→(∃i,b∈F i)∨(w.heap.size≤b∧b<w'.heap.size))(hsame:∀id,¬ch id→F' id=F id∧S'.h id=S.h id)(xm:(∀b,aD E w F b→aD E w' F' b)→∀id,ch id→∀rows,S'.h id=some (some rows)→dU w' (aD E w' F') β' id rows (F' id))(JY:∀id,ch id→(∀rows,S'.h id≠some (some rows))→F' id=[])(hnd:∀id,ch id→(F' id).Nodup)(xb:∀i j b,ch i→b∈F' i→b∈F' j→i=j)(J0:∀id,S'.h id=none→β' id=none)(CU:(∀b,aD E w F b→aD E w' F' b)→∀t,(a'.tmps.getD t undef=a.tmps.getD t undef∧S'.t t=S.t t)∨R w' (aD E w' F') β' [] (a'.tmps.getD t undef) (S'.t t))(hdf:a'.defers=a.defers:=by first|rfl|exact put_defers ..)(fL:∀b n,gr w b n→gr w' b n:=by exact fun _ _ h=>h)(s0:S'.n=S.n:=by rfl)(hok:j8 E S S':=by exact j8.refl rfl):aP C E w' S' a' β' F':=by have hI:∀b,aD E w F b→aD E w' F' b:=fun b⟨h1,h2,h3⟩=>⟨h1,GT h2 hsz,fun id hm=>by rcases hF id b hm with⟨i,hi⟩|⟨hge,_⟩;·{exact h3 i hi};·omega⟩;have w6:∀b,aD E w F b→w'.heap[b]? =w.heap[b]? :=fun b hb=>hw b hb.2.1 fun id _=>hb.2.2 id;refine{n:=hn,df:=hdf▸h.df.mono (fun b hb=>⟨hI b hb.1,hb.2⟩) (fun b hb=>w6 b hb.1),slot:= ?_,obj:= ?_,dead:= ?_,nd:= ?_,dc:= ?_,dom:=J0,lt:= ?_,kept:= ?_,cD:= ?_,ns:=fun t ht=>h.ns t (s0▸ht),kb:=fun k rows hk hr=> ?_};·{intro t;rcases CU hI t with⟨h1,h2⟩|h1;·{rw[h1,h2];exact(h.slot t).mono hI (fun b hb=>hb.elim (w6 b) (fun hb=>by cases hb)) bN};·exact h1};·{intro id rows hr;by_cases hc:ch id;·{exact xm hI id hc rows hr};·obtain⟨e1,e2⟩:=hsame id hc;rw[e1];rw[e2]at hr;refine(h.obj id rows hr).mono hI (fun b hb=>hb.elim (w6 b) fun hb=> ?_) bN;exact hw b (h.lt id b hb).1 fun j hj hm=>hc (by rw[h.dc id j b hb hm];exact hj)};·{intro id hd;by_cases hc:ch id;·{exact JY id hc hd};·obtain⟨e1,e2⟩:=hsame id hc;rw[e1];exact h.dead id (by rw[←e2];exact hd)};·{intro id;by_cases hc:ch id;·{exact hnd id hc};·rw[(hsame id hc).1];exact h.nd id};·{intro i j b hi hj;by_cases hc:ch i;·{exact xb i j b hc hi hj};·by_cases kj:ch j;·{exact(xb j i b kj hj hi).symm};·rw[(hsame i hc).1]at hi;rw[(hsame j kj).1]at hj;exact h.dc i j b hi hj};·{intro id b hb;rcases hF id b hb with⟨i,hi⟩|⟨h1,h2⟩;·{exact⟨GT (h.lt i b hi).1 hsz,(h.lt i b hi).2⟩};·exact⟨h2, .inr (Nat.le_trans h.kept.size h1)⟩};·{refine⟨Nat.le_trans h.kept.size hsz,fun b hb hf=> ?_,hos.trans h.kept.os,hout.trans h.kept.out,fun x hx=>(uI x (GT hx h.kept.size)).trans (h.kept.eF x hx),fun b n hB=>fL b n (h.kept.nk b n hB)⟩;rw[hw b (GT hb h.kept.size) fun id _ hm=> ?_];·{exact h.kept.blk b hb hf};·rcases(h.lt id b hm).2 with h'|h';·{exact hf h'};·omega};·{intro g cs hg;exact(h.cD g cs hg).mono hI (fun b hb=>hb.elim (w6 b) (fun hb=>by cases hb)) bN};·obtain⟨vp,h0⟩:=hok k rows hk hr;have e:=h.kb k vp hk h0;rw[←e];obtain⟨l,hl⟩:=(h.obj k vp h0).isSome;rw[hl];exact bN k l hl
theorem aP.step{C:aL}{E:Env}{w:World}{S:ah}{a:Act}{β:Id→Option Loc}{F:Id→List Nat}(h:aP C E w S a β F){w':World}{S':ah}{a':Act}{β':Id→Option Loc}{F':Id→List Nat}(ch:Id→Prop)(hn:a'.tmps.size=S'.n)(hsz:w.heap.size≤w'.heap.size)(hos:w'.os=w.os)(hout:w'.output=w.output)(uI:∀x,w'.frozen? x=w.frozen? x)(hw:∀b,b<w.heap.size→(∀id,ch id→b∉F id)→w'.heap[b]? =w.heap[b]?)(bN:∀i l,β i=some l→β' i=some l)(hF:∀id b,b∈F' id→(∃i,b∈F i)∨(w.heap.size≤b∧b<w'.heap.size))(hsame:∀id,¬ch id→F' id=F id∧S'.h id=S.h id)(xm:(∀b,aD E w F b→aD E w' F' b)→∀id,ch id→∀rows,S'.h id=some (some rows)→dU w' (aD E w' F') β' id rows (F' id))(JY:∀id,ch id→(∀rows,S'.h id≠some (some rows))→F' id=[])(hnd:∀id,ch id→(F' id).Nodup)(xb:∀i j b,ch i→b∈F' i→b∈F' j→i=j)(J0:∀id,S'.h id=none→β' id=none)(CU:(∀b,aD E w F b→aD E w' F' b)→∀t,(a'.tmps.getD t undef=a.tmps.getD t undef∧S'.t t=S.t t)∨R w' (aD E w' F') β' [] (a'.tmps.getD t undef) (S'.t t))(hdf:a'.defers=a.defers:=by first|rfl|exact put_defers ..)(fL:∀b n,gr w b n→gr w' b n:=by exact fun _ _ h=>h)(s0:S'.n=S.n:=by rfl)(hok:j8 E S S':=by exact j8.refl rfl):aP C E w' S' a' β' F':=by exact h.A7 ch hn hsz hos hout (fun x _=>uI x) hw bN hF hsame xm JY hnd xb J0 CU hdf fL s0 hok
end Go.Ab
