import Derived.Test.YtbbhbdlljfffdaaGreatDoorAbRel
import Derived.Laws.Append
import Derived.Laws.Cells
import Derived.Laws.Rows
import Derived.Laws.World
open Array renaming getElem?_setIfInBounds→Hb,getElem?_eq_none→Hd,ext_getElem?→Hk
open List renaming mem_cons_self→GE,length_take→Ha,length_append→Hm,getElem?_append_left→Hn,getElem?_append_right→H0,mem_cons_of_mem→H1,length_cons→H2
open Nat renaming lt_of_lt_of_le→GT,lt_or_ge→Hc
set_option linter.all false
namespace Go.Ab
open Go
/-! ### Words on worlds -/
theorem jv(b o n:Nat):(⟨b,o,none⟩:Addr).add n=⟨b,o+n,none⟩:=by unfold Addr.add;split<;>simp_all
def over(c:Array Value)(p:Nat)(vs:List Value):Array Value:=⟨c.toList.take p++vs++c.toList.drop (p+vs.length)⟩
def gA(w:World)(b:Nat)(o:Obj):World:={w with heap:=w.heap.setIfInBounds b o}
theorem B3(c:Array Value)(p:Nat)(vs:List Value)(h:p+vs.length≤c.size):(over c p vs).size=c.size:=by have:c.toList.length=c.size:=by{simp};simp only[over,List.size_toArray,Hm,Ha,List.length_drop];omega
theorem Mo(c:Array Value)(p:Nat):over c p []=c:=by apply Array.ext';simp[over]
theorem tA(c:Array Value)(p k:Nat)(vs:List Value)(h:p+vs.length≤c.size):(over c p vs)[k]? =if p≤k∧k<p+vs.length then vs[k-p]? else c[k]? :=by have hl:c.toList.length=c.size:=by{simp};have e:(over c p vs)[k]? =(c.toList.take p++vs++c.toList.drop (p+vs.length))[k]? :=by{simp[over]};rw[e];have e2:c[k]? =c.toList[k]? :=by{simp};by_cases h1:k<p;·{rw[Do (by omega),List.append_assoc,Hn (by simp;omega),List.getElem?_take_of_lt h1,e2]};·by_cases h2:k<p+vs.length;·{rw[AC ⟨by omega,h2⟩,Hn (by simp;omega),H0 (by simp;omega)];simp only[Ha];congr 1;omega};·rw[Do (by omega),H0 (by simp;omega),List.getElem?_drop,e2];simp only[Hm,Ha];congr 1;omega
theorem wg{w:World}{b:Nat}{o:Obj}(h:b<w.heap.size)(k:Nat):(gA w b o).heap[k]? =if k=b then some o else w.heap[k]? :=by simp only[gA,Hb];by_cases hk:k=b;·{subst hk;simp[h]};·rw[Do (fun e=>hk e.symm),Do hk]
theorem ab4{w:World}{b:Nat}{o:Obj}(h:w.heap[b]? =some o):gA w b o=w:=by have hb:b<w.heap.size:=by{rcases Hc b w.heap.size with h'|h';·{exact h'};·simp[Hd h']at h};have e:w.heap.setIfInBounds b o=w.heap:=by{apply Hk ;intro k;rw[Hb];split;·{subst_vars;simp_all};·rfl};simp[gA,e]
theorem lt_of_heap{w:World}{b:Nat}{o:Obj}(h:w.heap[b]? =some o):b<w.heap.size:=by rcases Hc b w.heap.size with h'|h';·{exact h'};·simp[Hd h']at h
theorem setCell_eq{w:World}{b o:Nat}{c:Array Value}{e:TypeId}{fr:Nat×Nat}(h:w.heap[b]? =some (.cells c e fr))(v:Value):w.setCell ⟨b,o,none⟩ v=gA w b (.cells (c.setIfInBounds o v) e fr):=by have hb:=lt_of_heap h;have e1:(w.setCell ⟨b,o,none⟩ v).heap=(gA w b (.cells (c.setIfInBounds o v) e fr)).heap:=by{apply Hk ;intro k;rw[wg hb];simp only[World.setCell,Array.getElem?_modify];by_cases hk:b=k;·{subst hk;simp[h]};·rw[Do hk,Do (fun e=>hk e.symm)]};unfold gA at e1⊢;unfold World.setCell at e1⊢;simp only at e1;rw[e1]
def mB(v:Value):Bool:=match v with| .agg _| .tuple _=>false|_=>true
theorem Nn(P:Program)(b o:Nat)(e:TypeId):∀(vs:List Value)(i:Nat)(w:World)(c:Array Value),w.heap[b]? =some (.cells c e (0,0))→o+i+vs.length≤c.size→(∀v∈vs,mB v=true)→(storeCells ⟨b,o,none⟩ vs i).run P w= .ok () (gA w b (.cells (over c (o+i) vs) e (0,0))):=by intro vs;induction vs with|nil=>(intro i w c h _ _;rw[Mo,ab4 h];rfl)|cons v vs ih=>intro i w c h hl hp;have hv:=hp v (GE ..);have hb:=lt_of_heap h;have hc:w.cell? ⟨b,o+i,none⟩=some (c[o+i]'(by simp at hl;omega)):=by{rw[cell_of_row w b (o+i) c e (0,0) h,Array.getElem?_eq_getElem]};have hf:w.frozen? ⟨b,o+i,none⟩=false:=frozen_of_row w b (o+i) c e h;have hst:(store ⟨b,o+i,none⟩ v).run P w= .ok () (gA w b (.cells (c.setIfInBounds (o+i) v) e (0,0))):=by{rw[←setCell_eq h];unfold Go.store;cases v<;>simp_all[Sem.run,mB]};have hg:(gA w b (.cells (c.setIfInBounds (o+i) v) e (0,0))).heap[b]? =some (.cells (c.setIfInBounds (o+i) v) e (0,0)):=by{rw[wg hb,AC rfl]};have:=ih (i+1) _ _ hg (by simp at hl⊢;omega) (fun v hv=>hp v (H1 _ hv));have e0:storeCells ⟨b,o,none⟩ (v::vs) i=(do store ((⟨b,o,none⟩:Addr).add i) v;storeCells ⟨b,o,none⟩ vs (i+1)):=rfl;rw[e0,Sem.run_bind,jv,hst,Result.andThen_ok,this];congr 1;have e2:over (c.setIfInBounds (o+i) v) (o+(i+1)) vs=over c (o+i) (v::vs):=by{apply Hk ;intro k;rw[tA _ _ _ _ (by simp at hl⊢;omega),tA _ _ _ _ (by simp at hl⊢;omega),Hb];simp only[H2];by_cases h1:k=o+i;·{subst h1;simp only[H2]at hl;rw[Do (by omega),AC rfl,AC (by omega),AC (by omega)];simp};·by_cases h2:o+i<k∧k<o+i+(vs.length+1);·{rw[AC (by omega),AC (by omega),show k-(o+i)=(k-(o+(i+1)))+1 by omega,List.getElem?_cons_succ]};·rw[Do (by omega),Do (by omega),Do (by omega)]};rw[e2];unfold gA;simp[Array.setIfInBounds_setIfInBounds]
/-! ### A state -/
structure Env where
 w0:World
 dG:Nat→Prop
 bZ:Nat→Prop
 m:Nat
 le:m≤w0.heap.size
 K:Id→Prop:=fun _=>False
 qP:Id→Option Loc:=fun _=>none
 qQ:∀i,K i→gL i=true:=by exact fun _ h=>h.elim
 ds:List Deferred:=[]
structure Kept(w0 w:World)(dG:Nat→Prop):Prop where
 size:w0.heap.size≤w.heap.size
 blk:∀b,b<w0.heap.size→¬dG b→w.heap[b]? =w0.heap[b]?
 os:w.os=w0.os
 out:w.output=w0.output
 dB:∀a,a.block<w0.heap.size→w.frozen? a=w0.frozen? a
 kg:∀b n,eS w0 b n→eS w b n
theorem Kept.refl(w:World)(F:Nat→Prop):Kept w w F:=⟨Nat.le_refl _,fun _ _ _=>rfl,rfl,rfl,fun _ _=>rfl,fun _ _ h=>h⟩
def aq(E:Env)(w:World)(F:Id→List Nat)(b:Nat):Prop:=(E.bZ b∨E.dG b∨E.w0.heap.size≤b)∧b<w.heap.size∧∀id,b∉F id
def cL(w:World)(I:Nat→Prop)(β:Id→Option Loc)(id:Id)(rows:Rows)(fp:List Nat):Prop:=(β id=some .nil∧rows=[]∧fp=[])∨(∃b,β id=some (.map b)∧fp=[b]∧ko w b rows)∨∃b o sz n vs bX,β id=some (.blk b o sz n)∧fp=b::bX∧eS w b n∧(rows≠[]∧∀r∈rows,r.length=sz)∧o+rows.length*sz≤n∧ei w b o vs∧ak w I β bX vs rows.flatten
theorem cL.mono{w:World}{I:Nat→Prop}{β:Id→Option Loc}{id:Id}{rows:Rows}{fp:List Nat}(h:cL w I β id rows fp){w':World}{I':Nat→Prop}{β':Id→Option Loc}(hI:∀b,I b→I' b)(hw:∀b,(I b∨b∈fp)→w'.heap[b]? =w.heap[b]?)(aV:∀i l,β i=some l→β' i=some l):cL w' I' β' id rows fp:=by rcases h with⟨h1,h2,h3⟩|⟨b,h1,rfl,h3⟩|⟨b,o,sz,n,vs,bX,h1,rfl,h3,h4,h5,h6,h7⟩;·{exact .inl ⟨aV _ _ h1,h2,h3⟩};·{exact .inr (.inl ⟨b,aV _ _ h1,rfl,h3.mono (hw _ (.inr (GE ..)))⟩)};·exact .inr (.inr ⟨b,o,sz,n,vs,bX,aV _ _ h1,rfl,h3.mono (hw _ (.inr (GE ..))),h4,h5,h6.mono (hw _ (.inr (GE ..))),h7.mono hI (fun x hx=>hw x (hx.imp _root_.id fun h=>H1 _ h)) aV⟩)
theorem cL.isSome{w:World}{I:Nat→Prop}{β:Id→Option Loc}{id:Id}{rows:Rows}{fp:List Nat}(h:cL w I β id rows fp):∃l,β id=some l:=by rcases h with⟨h,_⟩|⟨b,h,_⟩|⟨b,o,sz,n,vs,bX,h,_⟩<;>exact⟨_,h⟩
def qT(D:Nat):Deferred:={target:= .collected D,args:= #[]}
def gr(w:World)(I:Nat→Prop)(d0 ds:List Deferred):Prop:=∃eU:List Nat,ds=eU.map qT++d0∧eU.Nodup∧∀D∈eU,w.heap[D]? =some (.deferred (some []))∧I D
theorem gr.nil{w:World}{I:Nat→Prop}{d0:List Deferred}:gr w I d0 d0:=⟨[],rfl,List.nodup_nil,by simp⟩
theorem gr.mono{w w':World}{I I':Nat→Prop}{d0 ds:List Deferred}(h:gr w I d0 ds)(hI:∀b,I b→I' b)(hw:∀b,I b→w'.heap[b]? =w.heap[b]?):gr w' I' d0 ds:=by obtain⟨eU,h1,h2,h3⟩:=h;exact⟨eU,h1,h2,fun D hD=>⟨(hw D (h3 D hD).2).trans (h3 D hD).1,hI D (h3 D hD).2⟩⟩
structure ax(C:av)(E:Env)(w:World)(S:ah)(a:Act)(β:Id→Option Loc)(F:Id→List Nat):Prop where
 n:a.tmps.size=S.n
 df:gr w (fun b=>aq E w F b∧E.m≤b) E.ds a.defers
 slot:∀t,R w (aq E w F) β [] (a.tmps.getD t undef) (S.t t)
 obj:∀id rows,S.h id=some (some rows)→cL w (aq E w F) β id rows (F id)
 dead:∀id,(∀rows,S.h id≠some (some rows))→F id=[]
 nd:∀id,(F id).Nodup
 ck:∀i j b,b∈F i→b∈F j→i=j
 dom:∀id,S.h id=none→β id=none
 lt:∀id b,b∈F id→b<w.heap.size∧(E.dG b∨E.w0.heap.size≤b)
 kept:Kept E.w0 w E.dG
 bM:∀g cs,C.bM g=some cs→R w (aq E w F) β [] (.pointer (some ⟨g,0,none⟩)) (.ay cs)
 ns:∀t,t<S.n→∀q,¬E.K (q++[t])
 kb:∀k rows,E.K k→S.h k=some (some rows)→β k=E.qP k
def gW(E:Env)(S S':ah):Prop:=∀k rows,E.K k→S'.h k=some (some rows)→∃rm,S.h k=some (some rm)
theorem gW.refl{E:Env}{S S':ah}(h:S'.h=S.h):gW E S S':=fun k rows _ hr=>⟨rows,h▸hr⟩
theorem put_defers(a:Act)(d:Option Tmp)(v:Value):(a.put d v).defers=a.defers:=by cases d<;>rfl
theorem qe{w w':World}(hold:∀b,b<w.heap.size→w'.heap[b]? =w.heap[b]?):∀b n,eS w b n→eS w' b n:=fun b n hB=>by refine hB.mono (hold b ?_);obtain⟨c,e,hc,_⟩:=hB;rcases Hc b w.heap.size with h|h;·{exact h};·rw[Hd h]at hc;cases hc
theorem ax.wq{C:av}{E:Env}{w:World}{S:ah}{a:Act}{β:Id→Option Loc}{F:Id→List Nat}(h:ax C E w S a β F){w':World}{S':ah}{a':Act}{β':Id→Option Loc}{F':Id→List Nat}(ch:Id→Prop)(hn:a'.tmps.size=S'.n)(hsz:w.heap.size≤w'.heap.size)(hos:w'.os=w.os)(hout:w'.output=w.output)(qF:∀x,x.block<w.heap.size→w'.frozen? x=w.frozen? x)(hw:∀b,b<w.heap.size→(∀id,ch id→b∉F id)→w'.heap[b]? =w.heap[b]?)(aV:∀i l,β i=some l→β' i=some l)(hF:∀id b,b∈F' id→(∃i,b∈F i)∨(w.heap.size≤b∧b<w'.heap.size))(hsame:∀id,¬ch id→F' id=F id∧S'.h id=S.h id)(sR:(∀b,aq E w F b→aq E w' F' b)→∀id,ch id→∀rows,S'.h id=some (some rows)→cL w' (aq E w' F') β' id rows (F' id))(EA:∀id,ch id→(∀rows,S'.h id≠some (some rows))→F' id=[])(hnd:∀id,ch id→(F' id).Nodup)(sK:∀i j b,ch i→b∈F' i→b∈F' j→i=j)(EC:∀id,S'.h id=none→β' id=none)(yq:(∀b,aq E w F b→aq E w' F' b)→∀t,(a'.tmps.getD t undef=a.tmps.getD t undef∧S'.t t=S.t t)∨R w' (aq E w' F') β' [] (a'.tmps.getD t undef) (S'.t t))(hdf:a'.defers=a.defers:=by first|rfl|exact put_defers ..)(eu:∀b n,eS w b n→eS w' b n:=by exact fun _ _ h=>h)(o5:S'.n=S.n:=by rfl)(hok:gW E S S':=by exact gW.refl rfl):ax C E w' S' a' β' F':=by have hI:∀b,aq E w F b→aq E w' F' b:=fun b⟨h1,h2,h3⟩=>⟨h1,GT h2 hsz,fun id hm=>by rcases hF id b hm with⟨i,hi⟩|⟨hge,_⟩;·{exact h3 i hi};·omega⟩;have sF:∀b,aq E w F b→w'.heap[b]? =w.heap[b]? :=fun b hb=>hw b hb.2.1 fun id _=>hb.2.2 id;refine{n:=hn,df:=hdf▸h.df.mono (fun b hb=>⟨hI b hb.1,hb.2⟩) (fun b hb=>sF b hb.1),slot:= ?_,obj:= ?_,dead:= ?_,nd:= ?_,ck:= ?_,dom:=EC,lt:= ?_,kept:= ?_,bM:= ?_,ns:=fun t ht=>h.ns t (o5▸ht),kb:=fun k rows hk hr=> ?_};·{intro t;rcases yq hI t with⟨h1,h2⟩|h1;·{rw[h1,h2];exact(h.slot t).mono hI (fun b hb=>hb.elim (sF b) (fun hb=>by cases hb)) aV};·exact h1};·{intro id rows hr;by_cases hc:ch id;·{exact sR hI id hc rows hr};·obtain⟨e1,e2⟩:=hsame id hc;rw[e1];rw[e2]at hr;refine(h.obj id rows hr).mono hI (fun b hb=>hb.elim (sF b) fun hb=> ?_) aV;exact hw b (h.lt id b hb).1 fun j hj hm=>hc (by rw[h.ck id j b hb hm];exact hj)};·{intro id hd;by_cases hc:ch id;·{exact EA id hc hd};·obtain⟨e1,e2⟩:=hsame id hc;rw[e1];exact h.dead id (by rw[←e2];exact hd)};·{intro id;by_cases hc:ch id;·{exact hnd id hc};·rw[(hsame id hc).1];exact h.nd id};·{intro i j b hi hj;by_cases hc:ch i;·{exact sK i j b hc hi hj};·by_cases kI:ch j;·{exact(sK j i b kI hj hi).symm};·rw[(hsame i hc).1]at hi;rw[(hsame j kI).1]at hj;exact h.ck i j b hi hj};·{intro id b hb;rcases hF id b hb with⟨i,hi⟩|⟨h1,h2⟩;·{exact⟨GT (h.lt i b hi).1 hsz,(h.lt i b hi).2⟩};·exact⟨h2, .inr (Nat.le_trans h.kept.size h1)⟩};·{refine⟨Nat.le_trans h.kept.size hsz,fun b hb hf=> ?_,hos.trans h.kept.os,hout.trans h.kept.out,fun x hx=>(qF x (GT hx h.kept.size)).trans (h.kept.dB x hx),fun b n hB=>eu b n (h.kept.kg b n hB)⟩;rw[hw b (GT hb h.kept.size) fun id _ hm=> ?_];·{exact h.kept.blk b hb hf};·rcases(h.lt id b hm).2 with h'|h';·{exact hf h'};·omega};·{intro g cs hg;exact(h.bM g cs hg).mono hI (fun b hb=>hb.elim (sF b) (fun hb=>by cases hb)) aV};·obtain⟨rm,h0⟩:=hok k rows hk hr;have e:=h.kb k rm hk h0;rw[←e];obtain⟨l,hl⟩:=(h.obj k rm h0).isSome;rw[hl];exact aV k l hl
theorem ax.step{C:av}{E:Env}{w:World}{S:ah}{a:Act}{β:Id→Option Loc}{F:Id→List Nat}(h:ax C E w S a β F){w':World}{S':ah}{a':Act}{β':Id→Option Loc}{F':Id→List Nat}(ch:Id→Prop)(hn:a'.tmps.size=S'.n)(hsz:w.heap.size≤w'.heap.size)(hos:w'.os=w.os)(hout:w'.output=w.output)(qF:∀x,w'.frozen? x=w.frozen? x)(hw:∀b,b<w.heap.size→(∀id,ch id→b∉F id)→w'.heap[b]? =w.heap[b]?)(aV:∀i l,β i=some l→β' i=some l)(hF:∀id b,b∈F' id→(∃i,b∈F i)∨(w.heap.size≤b∧b<w'.heap.size))(hsame:∀id,¬ch id→F' id=F id∧S'.h id=S.h id)(sR:(∀b,aq E w F b→aq E w' F' b)→∀id,ch id→∀rows,S'.h id=some (some rows)→cL w' (aq E w' F') β' id rows (F' id))(EA:∀id,ch id→(∀rows,S'.h id≠some (some rows))→F' id=[])(hnd:∀id,ch id→(F' id).Nodup)(sK:∀i j b,ch i→b∈F' i→b∈F' j→i=j)(EC:∀id,S'.h id=none→β' id=none)(yq:(∀b,aq E w F b→aq E w' F' b)→∀t,(a'.tmps.getD t undef=a.tmps.getD t undef∧S'.t t=S.t t)∨R w' (aq E w' F') β' [] (a'.tmps.getD t undef) (S'.t t))(hdf:a'.defers=a.defers:=by first|rfl|exact put_defers ..)(eu:∀b n,eS w b n→eS w' b n:=by exact fun _ _ h=>h)(o5:S'.n=S.n:=by rfl)(hok:gW E S S':=by exact gW.refl rfl):ax C E w' S' a' β' F':=by exact h.wq ch hn hsz hos hout (fun x _=>qF x) hw aV hF hsame sR EA hnd sK EC yq hdf eu o5 hok
end Go.Ab
