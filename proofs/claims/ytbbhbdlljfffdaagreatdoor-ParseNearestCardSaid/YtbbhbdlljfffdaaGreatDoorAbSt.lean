import Derived.Test.YtbbhbdlljfffdaaGreatDoorAbRel
import Derived.Laws.Append
import Derived.Laws.Cells
import Derived.Laws.Rows
import Derived.Laws.World
open Array renaming getElem?_setIfInBounds→Hb,getElem?_eq_none→Hd,ext_getElem?→Hk
open List renaming mem_cons_self→GE,length_take→Ha,length_append→Hm,getElem?_append_left→Hn,getElem?_append_right→H0,mem_cons_of_mem→H1,length_cons→H2
open Nat renaming lt_of_lt_of_le→GT,lt_or_ge→Hc
set_option linter.all false
namespace Go.Ab
open Go
/-! ### Words on worlds -/
theorem jw(b o n:Nat):(⟨b,o,none⟩:Addr).add n=⟨b,o+n,none⟩:=by unfold Addr.add;split<;>simp_all
def over(c:Array Value)(p:Nat)(vs:List Value):Array Value:=⟨c.toList.take p++vs++c.toList.drop (p+vs.length)⟩
def gB(w:World)(b:Nat)(o:Obj):World:={w with heap:=w.heap.setIfInBounds b o}
theorem z6(c:Array Value)(p:Nat)(vs:List Value)(h:p+vs.length≤c.size):(over c p vs).size=c.size:=by have:c.toList.length=c.size:=by{simp};simp only[over,List.size_toArray,Hm,Ha,List.length_drop];omega
theorem JW(c:Array Value)(p:Nat):over c p []=c:=by apply Array.ext';simp[over]
theorem sn(c:Array Value)(p k:Nat)(vs:List Value)(h:p+vs.length≤c.size):(over c p vs)[k]? =if p≤k∧k<p+vs.length then vs[k-p]? else c[k]? :=by have hl:c.toList.length=c.size:=by{simp};have e:(over c p vs)[k]? =(c.toList.take p++vs++c.toList.drop (p+vs.length))[k]? :=by{simp[over]};rw[e];have e2:c[k]? =c.toList[k]? :=by{simp};by_cases h1:k<p;·{rw[Do (by omega),List.append_assoc,Hn (by simp;omega),List.getElem?_take_of_lt h1,e2]};·by_cases h2:k<p+vs.length;·{rw[AC ⟨by omega,h2⟩,Hn (by simp;omega),H0 (by simp;omega)];simp only[Ha];congr 1;omega};·rw[Do (by omega),H0 (by simp;omega),List.getElem?_drop,e2];simp only[Hm,Ha];congr 1;omega
theorem uI{w:World}{b:Nat}{o:Obj}(h:b<w.heap.size)(k:Nat):(gB w b o).heap[k]? =if k=b then some o else w.heap[k]? :=by simp only[gB,Hb];by_cases hk:k=b;·{subst hk;simp[h]};·rw[Do (fun e=>hk e.symm),Do hk]
theorem Yl{w:World}{b:Nat}{o:Obj}(h:w.heap[b]? =some o):gB w b o=w:=by have hb:b<w.heap.size:=by{rcases Hc b w.heap.size with h'|h';·{exact h'};·simp[Hd h']at h};have e:w.heap.setIfInBounds b o=w.heap:=by{apply Hk ;intro k;rw[Hb];split;·{subst_vars;simp_all};·rfl};simp[gB,e]
theorem lt_of_heap{w:World}{b:Nat}{o:Obj}(h:w.heap[b]? =some o):b<w.heap.size:=by rcases Hc b w.heap.size with h'|h';·{exact h'};·simp[Hd h']at h
theorem setCell_eq{w:World}{b o:Nat}{c:Array Value}{e:TypeId}{fr:Nat×Nat}(h:w.heap[b]? =some (.cells c e fr))(v:Value):w.setCell ⟨b,o,none⟩ v=gB w b (.cells (c.setIfInBounds o v) e fr):=by have hb:=lt_of_heap h;have e1:(w.setCell ⟨b,o,none⟩ v).heap=(gB w b (.cells (c.setIfInBounds o v) e fr)).heap:=by{apply Hk ;intro k;rw[uI hb];simp only[World.setCell,Array.getElem?_modify];by_cases hk:b=k;·{subst hk;simp[h]};·rw[Do hk,Do (fun e=>hk e.symm)]};unfold gB at e1⊢;unfold World.setCell at e1⊢;simp only at e1;rw[e1]
def mq(v:Value):Bool:=match v with| .agg _| .tuple _=>false|_=>true
theorem KV(P:Program)(b o:Nat)(e:TypeId):∀(vs:List Value)(i:Nat)(w:World)(c:Array Value),w.heap[b]? =some (.cells c e (0,0))→o+i+vs.length≤c.size→(∀v∈vs,mq v=true)→(storeCells ⟨b,o,none⟩ vs i).run P w= .ok () (gB w b (.cells (over c (o+i) vs) e (0,0))):=by intro vs;induction vs with|nil=>(intro i w c h _ _;rw[JW,Yl h];rfl)|cons v vs ih=>intro i w c h hl hp;have hv:=hp v (GE ..);have hb:=lt_of_heap h;have hc:w.cell? ⟨b,o+i,none⟩=some (c[o+i]'(by simp at hl;omega)):=by{rw[cell_of_row w b (o+i) c e (0,0) h,Array.getElem?_eq_getElem]};have hf:w.frozen? ⟨b,o+i,none⟩=false:=frozen_of_row w b (o+i) c e h;have hst:(store ⟨b,o+i,none⟩ v).run P w= .ok () (gB w b (.cells (c.setIfInBounds (o+i) v) e (0,0))):=by{rw[←setCell_eq h];unfold Go.store;cases v<;>simp_all[Sem.run,mq]};have hg:(gB w b (.cells (c.setIfInBounds (o+i) v) e (0,0))).heap[b]? =some (.cells (c.setIfInBounds (o+i) v) e (0,0)):=by{rw[uI hb,AC rfl]};have:=ih (i+1) _ _ hg (by simp at hl⊢;omega) (fun v hv=>hp v (H1 _ hv));have e0:storeCells ⟨b,o,none⟩ (v::vs) i=(do store ((⟨b,o,none⟩:Addr).add i) v;storeCells ⟨b,o,none⟩ vs (i+1)):=rfl;rw[e0,Sem.run_bind,jw,hst,Result.andThen_ok,this];congr 1;have e2:over (c.setIfInBounds (o+i) v) (o+(i+1)) vs=over c (o+i) (v::vs):=by{apply Hk ;intro k;rw[sn _ _ _ _ (by simp at hl⊢;omega),sn _ _ _ _ (by simp at hl⊢;omega),Hb];simp only[H2];by_cases h1:k=o+i;·{subst h1;simp only[H2]at hl;rw[Do (by omega),AC rfl,AC (by omega),AC (by omega)];simp};·by_cases h2:o+i<k∧k<o+i+(vs.length+1);·{rw[AC (by omega),AC (by omega),show k-(o+i)=(k-(o+(i+1)))+1 by omega,List.getElem?_cons_succ]};·rw[Do (by omega),Do (by omega),Do (by omega)]};rw[e2];unfold gB;simp[Array.setIfInBounds_setIfInBounds]
/-! ### A state -/
structure Env where
 w0:World
 dR:Nat→Prop
 bZ:Nat→Prop
 m:Nat
 le:m≤w0.heap.size
 K:Id→Prop:=fun _=>False
 qi:Id→Option Loc:=fun _=>none
 qj:∀i,K i→gK i=true:=by exact fun _ h=>h.elim
 ds:List Deferred:=[]
structure Kept(w0 w:World)(dR:Nat→Prop):Prop where
 size:w0.heap.size≤w.heap.size
 blk:∀b,b<w0.heap.size→¬dR b→w.heap[b]? =w0.heap[b]?
 os:w.os=w0.os
 out:w.output=w0.output
 dN:∀a,a.block<w0.heap.size→w.frozen? a=w0.frozen? a
 ke:∀b n,eU w0 b n→eU w b n
theorem Kept.refl(w:World)(F:Nat→Prop):Kept w w F:=⟨Nat.le_refl _,fun _ _ _=>rfl,rfl,rfl,fun _ _=>rfl,fun _ _ h=>h⟩
def av(E:Env)(w:World)(F:Id→List Nat)(b:Nat):Prop:=(E.bZ b∨E.dR b∨E.w0.heap.size≤b)∧b<w.heap.size∧∀id,b∉F id
def cW(w:World)(I:Nat→Prop)(β:Id→Option Loc)(id:Id)(rows:Rows)(fp:List Nat):Prop:=(β id=some .nil∧rows=[]∧fp=[])∨(∃b,β id=some (.map b)∧fp=[b]∧kj w b rows)∨∃b o sz n vs bW,β id=some (.blk b o sz n)∧fp=b::bW∧eU w b n∧(rows≠[]∧∀r∈rows,r.length=sz)∧o+rows.length*sz≤n∧eu w b o vs∧aj w I β bW vs rows.flatten
theorem cW.mono{w:World}{I:Nat→Prop}{β:Id→Option Loc}{id:Id}{rows:Rows}{fp:List Nat}(h:cW w I β id rows fp){w':World}{I':Nat→Prop}{β':Id→Option Loc}(hI:∀b,I b→I' b)(hw:∀b,(I b∨b∈fp)→w'.heap[b]? =w.heap[b]?)(bf:∀i l,β i=some l→β' i=some l):cW w' I' β' id rows fp:=by rcases h with⟨h1,h2,h3⟩|⟨b,h1,rfl,h3⟩|⟨b,o,sz,n,vs,bW,h1,rfl,h3,h4,h5,h6,h7⟩;·{exact .inl ⟨bf _ _ h1,h2,h3⟩};·{exact .inr (.inl ⟨b,bf _ _ h1,rfl,h3.mono (hw _ (.inr (GE ..)))⟩)};·exact .inr (.inr ⟨b,o,sz,n,vs,bW,bf _ _ h1,rfl,h3.mono (hw _ (.inr (GE ..))),h4,h5,h6.mono (hw _ (.inr (GE ..))),h7.mono hI (fun x hx=>hw x (hx.imp _root_.id fun h=>H1 _ h)) bf⟩)
theorem cW.isSome{w:World}{I:Nat→Prop}{β:Id→Option Loc}{id:Id}{rows:Rows}{fp:List Nat}(h:cW w I β id rows fp):∃l,β id=some l:=by rcases h with⟨h,_⟩|⟨b,h,_⟩|⟨b,o,sz,n,vs,bW,h,_⟩<;>exact⟨_,h⟩
def qm(D:Nat):Deferred:={target:= .collected D,args:= #[]}
def gm(w:World)(I:Nat→Prop)(d0 ds:List Deferred):Prop:=∃eW:List Nat,ds=eW.map qm++d0∧eW.Nodup∧∀D∈eW,w.heap[D]? =some (.deferred (some []))∧I D
theorem gm.nil{w:World}{I:Nat→Prop}{d0:List Deferred}:gm w I d0 d0:=⟨[],rfl,List.nodup_nil,by simp⟩
theorem gm.mono{w w':World}{I I':Nat→Prop}{d0 ds:List Deferred}(h:gm w I d0 ds)(hI:∀b,I b→I' b)(hw:∀b,I b→w'.heap[b]? =w.heap[b]?):gm w' I' d0 ds:=by obtain⟨eW,h1,h2,h3⟩:=h;exact⟨eW,h1,h2,fun D hD=>⟨(hw D (h3 D hD).2).trans (h3 D hD).1,hI D (h3 D hD).2⟩⟩
structure aC(C:aB)(E:Env)(w:World)(S:ah)(a:Act)(β:Id→Option Loc)(F:Id→List Nat):Prop where
 n:a.tmps.size=S.n
 df:gm w (fun b=>av E w F b∧E.m≤b) E.ds a.defers
 slot:∀t,R w (av E w F) β [] (a.tmps.getD t undef) (S.t t)
 obj:∀id rows,S.h id=some (some rows)→cW w (av E w F) β id rows (F id)
 dead:∀id,(∀rows,S.h id≠some (some rows))→F id=[]
 nd:∀id,(F id).Nodup
 ct:∀i j b,b∈F i→b∈F j→i=j
 dom:∀id,S.h id=none→β id=none
 lt:∀id b,b∈F id→b<w.heap.size∧(E.dR b∨E.w0.heap.size≤b)
 kept:Kept E.w0 w E.dR
 bJ:∀g cs,C.bJ g=some cs→R w (av E w F) β [] (.pointer (some ⟨g,0,none⟩)) (.aL cs)
 ns:∀t,t<S.n→∀q,¬E.K (q++[t])
 kb:∀k rows,E.K k→S.h k=some (some rows)→β k=E.qi k
def gT(E:Env)(S S':ah):Prop:=∀k rows,E.K k→S'.h k=some (some rows)→∃qD,S.h k=some (some qD)
theorem gT.refl{E:Env}{S S':ah}(h:S'.h=S.h):gT E S S':=fun k rows _ hr=>⟨rows,h▸hr⟩
theorem put_defers(a:Act)(d:Option Tmp)(v:Value):(a.put d v).defers=a.defers:=by cases d<;>rfl
theorem pK{w w':World}(hold:∀b,b<w.heap.size→w'.heap[b]? =w.heap[b]?):∀b n,eU w b n→eU w' b n:=fun b n hB=>by refine hB.mono (hold b ?_);obtain⟨c,e,hc,_⟩:=hB;rcases Hc b w.heap.size with h|h;·{exact h};·rw[Hd h]at hc;cases hc
theorem aC.uK{C:aB}{E:Env}{w:World}{S:ah}{a:Act}{β:Id→Option Loc}{F:Id→List Nat}(h:aC C E w S a β F){w':World}{S':ah}{a':Act}{β':Id→Option Loc}{F':Id→List Nat}(ch:Id→Prop)(hn:a'.tmps.size=S'.n)(hsz:w.heap.size≤w'.heap.size)(hos:w'.os=w.os)(hout:w'.output=w.output)(p9:∀x,x.block<w.heap.size→w'.frozen? x=w.frozen? x)(hw:∀b,b<w.heap.size→(∀id,ch id→b∉F id)→w'.heap[b]? =w.heap[b]?)(bf:∀i l,β i=some l→β' i=some l)(hF:∀id b,b∈F' id→(∃i,b∈F i)∨(w.heap.size≤b∧b<w'.heap.size))(hsame:∀id,¬ch id→F' id=F id∧S'.h id=S.h id)(rP:(∀b,av E w F b→av E w' F' b)→∀id,ch id→∀rows,S'.h id=some (some rows)→cW w' (av E w' F') β' id rows (F' id))(Cf:∀id,ch id→(∀rows,S'.h id≠some (some rows))→F' id=[])(hnd:∀id,ch id→(F' id).Nodup)(rJ:∀i j b,ch i→b∈F' i→b∈F' j→i=j)(Ch:∀id,S'.h id=none→β' id=none)(wA:(∀b,av E w F b→av E w' F' b)→∀t,(a'.tmps.getD t undef=a.tmps.getD t undef∧S'.t t=S.t t)∨R w' (av E w' F') β' [] (a'.tmps.getD t undef) (S'.t t))(hdf:a'.defers=a.defers:=by first|rfl|exact put_defers ..)(eB:∀b n,eU w b n→eU w' b n:=by exact fun _ _ h=>h)(oE:S'.n=S.n:=by rfl)(hok:gT E S S':=by exact gT.refl rfl):aC C E w' S' a' β' F':=by have hI:∀b,av E w F b→av E w' F' b:=fun b⟨h1,h2,h3⟩=>⟨h1,GT h2 hsz,fun id hm=>by rcases hF id b hm with⟨i,hi⟩|⟨hge,_⟩;·{exact h3 i hi};·omega⟩;have rE:∀b,av E w F b→w'.heap[b]? =w.heap[b]? :=fun b hb=>hw b hb.2.1 fun id _=>hb.2.2 id;refine{n:=hn,df:=hdf▸h.df.mono (fun b hb=>⟨hI b hb.1,hb.2⟩) (fun b hb=>rE b hb.1),slot:= ?_,obj:= ?_,dead:= ?_,nd:= ?_,ct:= ?_,dom:=Ch,lt:= ?_,kept:= ?_,bJ:= ?_,ns:=fun t ht=>h.ns t (oE▸ht),kb:=fun k rows hk hr=> ?_};·{intro t;rcases wA hI t with⟨h1,h2⟩|h1;·{rw[h1,h2];exact(h.slot t).mono hI (fun b hb=>hb.elim (rE b) (fun hb=>by cases hb)) bf};·exact h1};·{intro id rows hr;by_cases hc:ch id;·{exact rP hI id hc rows hr};·obtain⟨e1,e2⟩:=hsame id hc;rw[e1];rw[e2]at hr;refine(h.obj id rows hr).mono hI (fun b hb=>hb.elim (rE b) fun hb=> ?_) bf;exact hw b (h.lt id b hb).1 fun j hj hm=>hc (by rw[h.ct id j b hb hm];exact hj)};·{intro id hd;by_cases hc:ch id;·{exact Cf id hc hd};·obtain⟨e1,e2⟩:=hsame id hc;rw[e1];exact h.dead id (by rw[←e2];exact hd)};·{intro id;by_cases hc:ch id;·{exact hnd id hc};·rw[(hsame id hc).1];exact h.nd id};·{intro i j b hi hj;by_cases hc:ch i;·{exact rJ i j b hc hi hj};·by_cases oF:ch j;·{exact(rJ j i b oF hj hi).symm};·rw[(hsame i hc).1]at hi;rw[(hsame j oF).1]at hj;exact h.ct i j b hi hj};·{intro id b hb;rcases hF id b hb with⟨i,hi⟩|⟨h1,h2⟩;·{exact⟨GT (h.lt i b hi).1 hsz,(h.lt i b hi).2⟩};·exact⟨h2, .inr (Nat.le_trans h.kept.size h1)⟩};·{refine⟨Nat.le_trans h.kept.size hsz,fun b hb hf=> ?_,hos.trans h.kept.os,hout.trans h.kept.out,fun x hx=>(p9 x (GT hx h.kept.size)).trans (h.kept.dN x hx),fun b n hB=>eB b n (h.kept.ke b n hB)⟩;rw[hw b (GT hb h.kept.size) fun id _ hm=> ?_];·{exact h.kept.blk b hb hf};·rcases(h.lt id b hm).2 with h'|h';·{exact hf h'};·omega};·{intro g cs hg;exact(h.bJ g cs hg).mono hI (fun b hb=>hb.elim (rE b) (fun hb=>by cases hb)) bf};·obtain⟨qD,h0⟩:=hok k rows hk hr;have e:=h.kb k qD hk h0;rw[←e];obtain⟨l,hl⟩:=(h.obj k qD h0).isSome;rw[hl];exact bf k l hl
theorem aC.step{C:aB}{E:Env}{w:World}{S:ah}{a:Act}{β:Id→Option Loc}{F:Id→List Nat}(h:aC C E w S a β F){w':World}{S':ah}{a':Act}{β':Id→Option Loc}{F':Id→List Nat}(ch:Id→Prop)(hn:a'.tmps.size=S'.n)(hsz:w.heap.size≤w'.heap.size)(hos:w'.os=w.os)(hout:w'.output=w.output)(p9:∀x,w'.frozen? x=w.frozen? x)(hw:∀b,b<w.heap.size→(∀id,ch id→b∉F id)→w'.heap[b]? =w.heap[b]?)(bf:∀i l,β i=some l→β' i=some l)(hF:∀id b,b∈F' id→(∃i,b∈F i)∨(w.heap.size≤b∧b<w'.heap.size))(hsame:∀id,¬ch id→F' id=F id∧S'.h id=S.h id)(rP:(∀b,av E w F b→av E w' F' b)→∀id,ch id→∀rows,S'.h id=some (some rows)→cW w' (av E w' F') β' id rows (F' id))(Cf:∀id,ch id→(∀rows,S'.h id≠some (some rows))→F' id=[])(hnd:∀id,ch id→(F' id).Nodup)(rJ:∀i j b,ch i→b∈F' i→b∈F' j→i=j)(Ch:∀id,S'.h id=none→β' id=none)(wA:(∀b,av E w F b→av E w' F' b)→∀t,(a'.tmps.getD t undef=a.tmps.getD t undef∧S'.t t=S.t t)∨R w' (av E w' F') β' [] (a'.tmps.getD t undef) (S'.t t))(hdf:a'.defers=a.defers:=by first|rfl|exact put_defers ..)(eB:∀b n,eU w b n→eU w' b n:=by exact fun _ _ h=>h)(oE:S'.n=S.n:=by rfl)(hok:gT E S S':=by exact gT.refl rfl):aC C E w' S' a' β' F':=by exact h.uK ch hn hsz hos hout (fun x _=>p9 x) hw bf hF hsame rP Cf hnd rJ Ch wA hdf eB oE hok
end Go.Ab
