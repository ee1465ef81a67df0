import Derived.Test.YtbbhbdlljfffdaaGreatDoorAbRel
import Derived.Laws.Append
import Derived.Laws.Cells
import Derived.Laws.Rows
import Derived.Laws.World
open Array renaming getElem?_setIfInBounds→GT,getElem?_eq_none→Hb,ext_getElem?→Hc
open List renaming mem_cons_self→AC,length_take→GE,length_append→Hd,getElem?_append_left→Hk,getElem?_append_right→Hm,mem_cons_of_mem→Hn,length_cons→H0
open Nat renaming lt_of_lt_of_le→Do,lt_or_ge→Ha
set_option linter.all false
namespace Go.Ab
open Go
/-! ### Words on worlds -/
theorem lT(b o n:Nat):(⟨b,o,none⟩:Addr).add n=⟨b,o+n,none⟩:=by unfold Addr.add;split<;>simp_all
def over(c:Array Value)(p:Nat)(vs:List Value):Array Value:=⟨c.toList.take p++vs++c.toList.drop (p+vs.length)⟩
def jw(w:World)(b:Nat)(o:Obj):World:={w with heap:=w.heap.setIfInBounds b o}
theorem F0(c:Array Value)(p:Nat)(vs:List Value)(h:p+vs.length≤c.size):(over c p vs).size=c.size:=by have:c.toList.length=c.size:=by{simp};simp only[over,List.size_toArray,Hd,GE,List.length_drop];omega
theorem RY(c:Array Value)(p:Nat):over c p []=c:=by apply Array.ext';simp[over]
theorem xu(c:Array Value)(p k:Nat)(vs:List Value)(h:p+vs.length≤c.size):(over c p vs)[k]? =if p≤k∧k<p+vs.length then vs[k-p]? else c[k]? :=by have hl:c.toList.length=c.size:=by{simp};have e:(over c p vs)[k]? =(c.toList.take p++vs++c.toList.drop (p+vs.length))[k]? :=by{simp[over]};rw[e];have e2:c[k]? =c.toList[k]? :=by{simp};by_cases h1:k<p;·{rw[if_neg (by omega),List.append_assoc,Hk (by simp;omega),List.getElem?_take_of_lt h1,e2]};·by_cases h2:k<p+vs.length;·{rw[if_pos ⟨by omega,h2⟩,Hk (by simp;omega),Hm (by simp;omega)];simp only[GE];congr 1;omega};·rw[if_neg (by omega),Hm (by simp;omega),List.getElem?_drop,e2];simp only[Hd,GE];congr 1;omega
theorem Ah{w:World}{b:Nat}{o:Obj}(h:b<w.heap.size)(k:Nat):(jw w b o).heap[k]? =if k=b then some o else w.heap[k]? :=by simp only[jw,GT];by_cases hk:k=b;·{subst hk;simp[h]};·rw[if_neg (fun e=>hk e.symm),if_neg hk]
theorem ait{w:World}{b:Nat}{o:Obj}(h:w.heap[b]? =some o):jw w b o=w:=by have hb:b<w.heap.size:=by{rcases Ha b w.heap.size with h'|h';·{exact h'};·simp[Hb h']at h};have e:w.heap.setIfInBounds b o=w.heap:=by{apply Hc ;intro k;rw[GT];split;·{subst_vars;simp_all};·rfl};simp[jw,e]
theorem lt_of_heap{w:World}{b:Nat}{o:Obj}(h:w.heap[b]? =some o):b<w.heap.size:=by rcases Ha b w.heap.size with h'|h';·{exact h'};·simp[Hb h']at h
theorem setCell_eq{w:World}{b o:Nat}{c:Array Value}{e:TypeId}{fr:Nat×Nat}(h:w.heap[b]? =some (.cells c e fr))(v:Value):w.setCell ⟨b,o,none⟩ v=jw w b (.cells (c.setIfInBounds o v) e fr):=by have hb:=lt_of_heap h;have e1:(w.setCell ⟨b,o,none⟩ v).heap=(jw w b (.cells (c.setIfInBounds o v) e fr)).heap:=by{apply Hc ;intro k;rw[Ah hb];simp only[World.setCell,Array.getElem?_modify];by_cases hk:b=k;·{subst hk;simp[h]};·rw[if_neg hk,if_neg (fun e=>hk e.symm)]};unfold jw at e1⊢;unfold World.setCell at e1⊢;simp only at e1;rw[e1]
def pE(v:Value):Bool:=match v with| .agg _| .tuple _=>false|_=>true
theorem S4(P:Program)(b o:Nat)(e:TypeId):∀(vs:List Value)(i:Nat)(w:World)(c:Array Value),w.heap[b]? =some (.cells c e (0,0))→o+i+vs.length≤c.size→(∀v∈vs,pE v=true)→(storeCells ⟨b,o,none⟩ vs i).run P w= .ok () (jw w b (.cells (over c (o+i) vs) e (0,0))):=by intro vs;induction vs with|nil=>(intro i w c h _ _;rw[RY,ait h];rfl)|cons v vs ih=>intro i w c h hl hp;have hv:=hp v (AC ..);have hb:=lt_of_heap h;have hc:w.cell? ⟨b,o+i,none⟩=some (c[o+i]'(by simp at hl;omega)):=by{rw[cell_of_row w b (o+i) c e (0,0) h,Array.getElem?_eq_getElem]};have hf:w.frozen? ⟨b,o+i,none⟩=false:=frozen_of_row w b (o+i) c e h;have hst:(store ⟨b,o+i,none⟩ v).run P w= .ok () (jw w b (.cells (c.setIfInBounds (o+i) v) e (0,0))):=by{rw[←setCell_eq h];unfold Go.store;cases v<;>simp_all[Sem.run,pE]};have hg:(jw w b (.cells (c.setIfInBounds (o+i) v) e (0,0))).heap[b]? =some (.cells (c.setIfInBounds (o+i) v) e (0,0)):=by{rw[Ah hb,if_pos rfl]};have:=ih (i+1) _ _ hg (by simp at hl⊢;omega) (fun v hv=>hp v (Hn _ hv));have e0:storeCells ⟨b,o,none⟩ (v::vs) i=(do store ((⟨b,o,none⟩:Addr).add i) v;storeCells ⟨b,o,none⟩ vs (i+1)):=rfl;rw[e0,Sem.run_bind,lT,hst,Result.andThen_ok,this];congr 1;have e2:over (c.setIfInBounds (o+i) v) (o+(i+1)) vs=over c (o+i) (v::vs):=by{apply Hc ;intro k;rw[xu _ _ _ _ (by simp at hl⊢;omega),xu _ _ _ _ (by simp at hl⊢;omega),GT];simp only[H0];by_cases h1:k=o+i;·{subst h1;simp only[H0]at hl;rw[if_neg (by omega),if_pos rfl,if_pos (by omega),if_pos (by omega)];simp};·by_cases h2:o+i<k∧k<o+i+(vs.length+1);·{rw[if_pos (by omega),if_pos (by omega),show k-(o+i)=(k-(o+(i+1)))+1 by omega,List.getElem?_cons_succ]};·rw[if_neg (by omega),if_neg (by omega),if_neg (by omega)]};rw[e2];unfold jw;simp[Array.setIfInBounds_setIfInBounds]
/-! ### A state -/
structure Env where
 w0:World
 eM:Nat→Prop
 cE:Nat→Prop
 m:Nat
 le:m≤w0.heap.size
 K:Id→Prop:=fun _=>False
 uC:Id→Option Loc:=fun _=>none
 uD:∀i,K i→jI i=true:=by exact fun _ h=>h.elim
 ds:List Deferred:=[]
structure Kept(w0 w:World)(eM:Nat→Prop):Prop where
 size:w0.heap.size≤w.heap.size
 blk:∀b,b<w0.heap.size→¬eM b→w.heap[b]? =w0.heap[b]?
 os:w.os=w0.os
 out:w.output=w0.output
 eD:∀a,a.block<w0.heap.size→w.frozen? a=w0.frozen? a
 mR:∀b n,fZ w0 b n→fZ w b n
theorem Kept.refl(w:World)(F:Nat→Prop):Kept w w F:=⟨Nat.le_refl _,fun _ _ _=>rfl,rfl,rfl,fun _ _=>rfl,fun _ _ h=>h⟩
def az(E:Env)(w:World)(F:Id→List Nat)(b:Nat):Prop:=(E.cE b∨E.eM b∨E.w0.heap.size≤b)∧b<w.heap.size∧∀id,b∉F id
def dK(w:World)(I:Nat→Prop)(β:Id→Option Loc)(id:Id)(rows:Rows)(fp:List Nat):Prop:=(β id=some .nil∧rows=[]∧fp=[])∨(∃b,β id=some (.map b)∧fp=[b]∧mW w b rows)∨∃b o sz n vs cD,β id=some (.blk b o sz n)∧fp=b::cD∧fZ w b n∧(rows≠[]∧∀r∈rows,r.length=sz)∧o+rows.length*sz≤n∧e6 w b o vs∧av w I β cD vs rows.flatten
theorem dK.mono{w:World}{I:Nat→Prop}{β:Id→Option Loc}{id:Id}{rows:Rows}{fp:List Nat}(h:dK w I β id rows fp){w':World}{I':Nat→Prop}{β':Id→Option Loc}(hI:∀b,I b→I' b)(hw:∀b,(I b∨b∈fp)→w'.heap[b]? =w.heap[b]?)(bG:∀i l,β i=some l→β' i=some l):dK w' I' β' id rows fp:=by rcases h with⟨h1,h2,h3⟩|⟨b,h1,rfl,h3⟩|⟨b,o,sz,n,vs,cD,h1,rfl,h3,h4,h5,h6,h7⟩;·{exact .inl ⟨bG _ _ h1,h2,h3⟩};·{exact .inr (.inl ⟨b,bG _ _ h1,rfl,h3.mono (hw _ (.inr (AC ..)))⟩)};·exact .inr (.inr ⟨b,o,sz,n,vs,cD,bG _ _ h1,rfl,h3.mono (hw _ (.inr (AC ..))),h4,h5,h6.mono (hw _ (.inr (AC ..))),h7.mono hI (fun x hx=>hw x (hx.imp _root_.id fun h=>Hn _ h)) bG⟩)
theorem dK.isSome{w:World}{I:Nat→Prop}{β:Id→Option Loc}{id:Id}{rows:Rows}{fp:List Nat}(h:dK w I β id rows fp):∃l,β id=some l:=by rcases h with⟨h,_⟩|⟨b,h,_⟩|⟨b,o,sz,n,vs,cD,h,_⟩<;>exact⟨_,h⟩
def uH(D:Nat):Deferred:={target:= .collected D,args:= #[]}
def iZ(w:World)(I:Nat→Prop)(d0 ds:List Deferred):Prop:=∃ga:List Nat,ds=ga.map uH++d0∧ga.Nodup∧∀D∈ga,w.heap[D]? =some (.deferred (some []))∧I D
theorem iZ.nil{w:World}{I:Nat→Prop}{d0:List Deferred}:iZ w I d0 d0:=⟨[],rfl,List.nodup_nil,by simp⟩
theorem iZ.mono{w w':World}{I I':Nat→Prop}{d0 ds:List Deferred}(h:iZ w I d0 ds)(hI:∀b,I b→I' b)(hw:∀b,I b→w'.heap[b]? =w.heap[b]?):iZ w' I' d0 ds:=by obtain⟨ga,h1,h2,h3⟩:=h;exact⟨ga,h1,h2,fun D hD=>⟨(hw D (h3 D hD).2).trans (h3 D hD).1,hI D (h3 D hD).2⟩⟩
structure aL(C:aF)(E:Env)(w:World)(S:ah)(a:Act)(β:Id→Option Loc)(F:Id→List Nat):Prop where
 n:a.tmps.size=S.n
 df:iZ w (fun b=>az E w F b∧E.m≤b) E.ds a.defers
 slot:∀t,R w (az E w F) β [] (a.tmps.getD t undef) (S.t t)
 obj:∀id rows,S.h id=some (some rows)→dK w (az E w F) β id rows (F id)
 dead:∀id,(∀rows,S.h id≠some (some rows))→F id=[]
 nd:∀id,(F id).Nodup
 cV:∀i j b,b∈F i→b∈F j→i=j
 dom:∀id,S.h id=none→β id=none
 lt:∀id b,b∈F id→b<w.heap.size∧(E.eM b∨E.w0.heap.size≤b)
 kept:Kept E.w0 w E.eM
 cw:∀g cs,C.cw g=some cs→R w (az E w F) β [] (.pointer (some ⟨g,0,none⟩)) (.aI cs)
 ns:∀t,t<S.n→∀q,¬E.K (q++[t])
 kb:∀k rows,E.K k→S.h k=some (some rows)→β k=E.uC k
def jU(E:Env)(S S':ah):Prop:=∀k rows,E.K k→S'.h k=some (some rows)→∃u5,S.h k=some (some u5)
theorem jU.refl{E:Env}{S S':ah}(h:S'.h=S.h):jU E S S':=fun k rows _ hr=>⟨rows,h▸hr⟩
theorem put_defers(a:Act)(d:Option Tmp)(v:Value):(a.put d v).defers=a.defers:=by cases d<;>rfl
theorem tM{w w':World}(hold:∀b,b<w.heap.size→w'.heap[b]? =w.heap[b]?):∀b n,fZ w b n→fZ w' b n:=fun b n hB=>by refine hB.mono (hold b ?_);obtain⟨c,e,hc,_⟩:=hB;rcases Ha b w.heap.size with h|h;·{exact h};·rw[Hb h]at hc;cases hc
theorem aL.Am{C:aF}{E:Env}{w:World}{S:ah}{a:Act}{β:Id→Option Loc}{F:Id→List Nat}(h:aL C E w S a β F){w':World}{S':ah}{a':Act}{β':Id→Option Loc}{F':Id→List Nat}(ch:Id→Prop)(hn:a'.tmps.size=S'.n)(hsz:w.heap.size≤w'.heap.size)(hos:w'.os=w.os)(hout:w'.output=w.output)(um:∀x,x.block<w.heap.size→w'.frozen? x=w.frozen? x)(hw:∀b,b<w.heap.size→(∀id,ch id→b∉F id)→w'.heap[b]? =w.heap[b]?)(bG:∀i l,β i=some l→β' i=some l)(hF:∀id b,b∈F' id→(∃i,b∈F i)∨(w.heap.size≤b∧b<w'.heap.size))(hsame:∀id,¬ch id→F' id=F id∧S'.h id=S.h id)(wN:(∀b,az E w F b→az E w' F' b)→∀id,ch id→∀rows,S'.h id=some (some rows)→dK w' (az E w' F') β' id rows (F' id))(I7:∀id,ch id→(∀rows,S'.h id≠some (some rows))→F' id=[])(hnd:∀id,ch id→(F' id).Nodup)(wG:∀i j b,ch i→b∈F' i→b∈F' j→i=j)(I9:∀id,S'.h id=none→β' id=none)(B6:(∀b,az E w F b→az E w' F' b)→∀t,(a'.tmps.getD t undef=a.tmps.getD t undef∧S'.t t=S.t t)∨R w' (az E w' F') β' [] (a'.tmps.getD t undef) (S'.t t))(hdf:a'.defers=a.defers:=by first|rfl|exact put_defers ..)(fu:∀b n,fZ w b n→fZ w' b n:=by exact fun _ _ h=>h)(sL:S'.n=S.n:=by rfl)(hok:jU E S S':=by exact jU.refl rfl):aL C E w' S' a' β' F':=by have hI:∀b,az E w F b→az E w' F' b:=fun b⟨h1,h2,h3⟩=>⟨h1,Do h2 hsz,fun id hm=>by rcases hF id b hm with⟨i,hi⟩|⟨hge,_⟩;·{exact h3 i hi};·omega⟩;have wA:∀b,az E w F b→w'.heap[b]? =w.heap[b]? :=fun b hb=>hw b hb.2.1 fun id _=>hb.2.2 id;refine{n:=hn,df:=hdf▸h.df.mono (fun b hb=>⟨hI b hb.1,hb.2⟩) (fun b hb=>wA b hb.1),slot:= ?_,obj:= ?_,dead:= ?_,nd:= ?_,cV:= ?_,dom:=I9,lt:= ?_,kept:= ?_,cw:= ?_,ns:=fun t ht=>h.ns t (sL▸ht),kb:=fun k rows hk hr=> ?_};·{intro t;rcases B6 hI t with⟨h1,h2⟩|h1;·{rw[h1,h2];exact(h.slot t).mono hI (fun b hb=>hb.elim (wA b) (fun hb=>by cases hb)) bG};·exact h1};·{intro id rows hr;by_cases hc:ch id;·{exact wN hI id hc rows hr};·obtain⟨e1,e2⟩:=hsame id hc;rw[e1];rw[e2]at hr;refine(h.obj id rows hr).mono hI (fun b hb=>hb.elim (wA b) fun hb=> ?_) bG;exact hw b (h.lt id b hb).1 fun j hj hm=>hc (by rw[h.cV id j b hb hm];exact hj)};·{intro id hd;by_cases hc:ch id;·{exact I7 id hc hd};·obtain⟨e1,e2⟩:=hsame id hc;rw[e1];exact h.dead id (by rw[←e2];exact hd)};·{intro id;by_cases hc:ch id;·{exact hnd id hc};·rw[(hsame id hc).1];exact h.nd id};·{intro i j b hi hj;by_cases hc:ch i;·{exact wG i j b hc hi hj};·by_cases jk:ch j;·{exact(wG j i b jk hj hi).symm};·rw[(hsame i hc).1]at hi;rw[(hsame j jk).1]at hj;exact h.cV i j b hi hj};·{intro id b hb;rcases hF id b hb with⟨i,hi⟩|⟨h1,h2⟩;·{exact⟨Do (h.lt i b hi).1 hsz,(h.lt i b hi).2⟩};·exact⟨h2, .inr (Nat.le_trans h.kept.size h1)⟩};·{refine⟨Nat.le_trans h.kept.size hsz,fun b hb hf=> ?_,hos.trans h.kept.os,hout.trans h.kept.out,fun x hx=>(um x (Do hx h.kept.size)).trans (h.kept.eD x hx),fun b n hB=>fu b n (h.kept.mR b n hB)⟩;rw[hw b (Do hb h.kept.size) fun id _ hm=> ?_];·{exact h.kept.blk b hb hf};·rcases(h.lt id b hm).2 with h'|h';·{exact hf h'};·omega};·{intro g cs hg;exact(h.cw g cs hg).mono hI (fun b hb=>hb.elim (wA b) (fun hb=>by cases hb)) bG};·obtain⟨u5,h0⟩:=hok k rows hk hr;have e:=h.kb k u5 hk h0;rw[←e];obtain⟨l,hl⟩:=(h.obj k u5 h0).isSome;rw[hl];exact bG k l hl
theorem aL.step{C:aF}{E:Env}{w:World}{S:ah}{a:Act}{β:Id→Option Loc}{F:Id→List Nat}(h:aL C E w S a β F){w':World}{S':ah}{a':Act}{β':Id→Option Loc}{F':Id→List Nat}(ch:Id→Prop)(hn:a'.tmps.size=S'.n)(hsz:w.heap.size≤w'.heap.size)(hos:w'.os=w.os)(hout:w'.output=w.output)(um:∀x,w'.frozen? x=w.frozen? x)(hw:∀b,b<w.heap.size→(∀id,ch id→b∉F id)→w'.heap[b]? =w.heap[b]?)(bG:∀i l,β i=some l→β' i=some l)(hF:∀id b,b∈F' id→(∃i,b∈F i)∨(w.heap.size≤b∧b<w'.heap.size))(hsame:∀id,¬ch id→F' id=F id∧S'.h id=S.h id)(wN:(∀b,az E w F b→az E w' F' b)→∀id,ch id→∀rows,S'.h id=some (some rows)→dK w' (az E w' F') β' id rows (F' id))(I7:∀id,ch id→(∀rows,S'.h id≠some (some rows))→F' id=[])(hnd:∀id,ch id→(F' id).Nodup)(wG:∀i j b,ch i→b∈F' i→b∈F' j→i=j)(I9:∀id,S'.h id=none→β' id=none)(B6:(∀b,az E w F b→az E w' F' b)→∀t,(a'.tmps.getD t undef=a.tmps.getD t undef∧S'.t t=S.t t)∨R w' (az E w' F') β' [] (a'.tmps.getD t undef) (S'.t t))(hdf:a'.defers=a.defers:=by first|rfl|exact put_defers ..)(fu:∀b n,fZ w b n→fZ w' b n:=by exact fun _ _ h=>h)(sL:S'.n=S.n:=by rfl)(hok:jU E S S':=by exact jU.refl rfl):aL C E w' S' a' β' F':=by exact h.Am ch hn hsz hos hout (fun x _=>um x) hw bG hF hsame wN I7 hnd wG I9 B6 hdf fu sL hok
end Go.Ab
