import Derived.Test.YtmboghefgckkpaaGreatAbRel
import Derived.Laws.Append
import Derived.Laws.Cells
import Derived.Laws.Rows
import Derived.Laws.World
namespace Go.Ab
open Go
/-! ### Words on worlds -/
theorem m0(b o n:Nat):(⟨b,o,none⟩:Addr).add n=⟨b,o+n,none⟩:=by unfold Addr.add;split<;>simp_all
def over(c:Array Value)(p:Nat)(vs:List Value):Array Value:=⟨c.toList.take p++vs++c.toList.drop (p+vs.length)⟩
def jV(w:World)(b:Nat)(o:Obj):World:={w with heap:=w.heap.setIfInBounds b o}
theorem KA(c:Array Value)(p:Nat)(vs:List Value)(h:p+vs.length≤c.size):(over c p vs).size=c.size:=by have:c.toList.length=c.size:=by{simp};simp only[over,List.size_toArray,List.length_append,List.length_take,List.length_drop];omega
theorem VL(c:Array Value)(p:Nat):over c p []=c:=by apply Array.ext';simp[over]
theorem z6(c:Array Value)(p k:Nat)(vs:List Value)(h:p+vs.length≤c.size):(over c p vs)[k]? =if p≤k∧k<p+vs.length then vs[k-p]? else c[k]? :=by have hl:c.toList.length=c.size:=by{simp};have e:(over c p vs)[k]? =(c.toList.take p++vs++c.toList.drop (p+vs.length))[k]? :=by{simp[over]};rw[e];have e2:c[k]? =c.toList[k]? :=by{simp};by_cases h1:k<p;·{rw[if_neg (by omega),List.append_assoc,List.getElem?_append_left (by simp;omega),List.getElem?_take_of_lt h1,e2]};·by_cases h2:k<p+vs.length;·{rw[if_pos ⟨by omega,h2⟩,List.getElem?_append_left (by simp;omega),List.getElem?_append_right (by simp;omega)];simp only[List.length_take];congr 1;omega};·rw[if_neg (by omega),List.getElem?_append_right (by simp;omega),List.getElem?_drop,e2];simp only[List.length_append,List.length_take];congr 1;omega
theorem DF{w:World}{b:Nat}{o:Obj}(h:b<w.heap.size)(k:Nat):(jV w b o).heap[k]? =if k=b then some o else w.heap[k]? :=by simp only[jV,Array.getElem?_setIfInBounds];by_cases hk:k=b;·{subst hk;simp[h]};·rw[if_neg (fun e=>hk e.symm),if_neg hk]
theorem amR{w:World}{b:Nat}{o:Obj}(h:w.heap[b]? =some o):jV w b o=w:=by have hb:b<w.heap.size:=by{rcases Nat.lt_or_ge b w.heap.size with h'|h';·{exact h'};·simp[Array.getElem?_eq_none h']at h};have e:w.heap.setIfInBounds b o=w.heap:=by{apply Array.ext_getElem? ;intro k;rw[Array.getElem?_setIfInBounds];split;·{subst_vars;simp_all};·rfl};simp[jV,e]
theorem mL{w:World}{b:Nat}{o:Obj}(h:w.heap[b]? =some o):b<w.heap.size:=by rcases Nat.lt_or_ge b w.heap.size with h'|h';·{exact h'};·simp[Array.getElem?_eq_none h']at h
theorem amT{w:World}{b o:Nat}{c:Array Value}{e:TypeId}{fr:Nat×Nat}(h:w.heap[b]? =some (.cells c e fr))(v:Value):w.setCell ⟨b,o,none⟩ v=jV w b (.cells (c.setIfInBounds o v) e fr):=by have hb:=mL h;have e1:(w.setCell ⟨b,o,none⟩ v).heap=(jV w b (.cells (c.setIfInBounds o v) e fr)).heap:=by{apply Array.ext_getElem? ;intro k;rw[DF hb];simp only[World.setCell,Array.getElem?_modify];by_cases hk:b=k;·{subst hk;simp[h]};·rw[if_neg hk,if_neg (fun e=>hk e.symm)]};unfold jV at e1⊢;unfold World.setCell at e1⊢;simp only at e1;rw[e1]
def rD(v:Value):Bool:=match v with| .agg _| .tuple _=>false|_=>true
theorem WB(P:Program)(b o:Nat)(e:TypeId):∀(vs:List Value)(i:Nat)(w:World)(c:Array Value),w.heap[b]? =some (.cells c e (0,0))→o+i+vs.length≤c.size→(∀v∈vs,rD v=true)→(storeCells ⟨b,o,none⟩ vs i).run P w= .ok () (jV w b (.cells (over c (o+i) vs) e (0,0))):=by intro vs;induction vs with|nil=>(intro i w c h _ _;rw[VL,amR h];rfl)|cons v vs ih=>intro i w c h hl hp;have hv:=hp v (List.mem_cons_self ..);have hb:=mL h;have hc:w.cell? ⟨b,o+i,none⟩=some (c[o+i]'(by simp at hl;omega)):=by{rw[cell_of_row w b (o+i) c e (0,0) h,Array.getElem?_eq_getElem]};have hf:w.frozen? ⟨b,o+i,none⟩=false:=frozen_of_row w b (o+i) c e h;have hst:(store ⟨b,o+i,none⟩ v).run P w= .ok () (jV w b (.cells (c.setIfInBounds (o+i) v) e (0,0))):=by{rw[←amT h];unfold Go.store;cases v<;>simp_all[Sem.run,rD]};have hg:(jV w b (.cells (c.setIfInBounds (o+i) v) e (0,0))).heap[b]? =some (.cells (c.setIfInBounds (o+i) v) e (0,0)):=by{rw[DF hb,if_pos rfl]};have:=ih (i+1) _ _ hg (by simp at hl⊢;omega) (fun v hv=>hp v (List.mem_cons_of_mem _ hv));have e0:storeCells ⟨b,o,none⟩ (v::vs) i=(do store ((⟨b,o,none⟩:Addr).add i) v;storeCells ⟨b,o,none⟩ vs (i+1)):=rfl;rw[e0,Sem.run_bind,m0,hst,Result.andThen_ok,this];congr 1;have e2:over (c.setIfInBounds (o+i) v) (o+(i+1)) vs=over c (o+i) (v::vs):=by{apply Array.ext_getElem? ;intro k;rw[z6 _ _ _ _ (by simp at hl⊢;omega),z6 _ _ _ _ (by simp at hl⊢;omega),Array.getElem?_setIfInBounds];simp only[List.length_cons];by_cases h1:k=o+i;·{subst h1;simp only[List.length_cons]at hl;rw[if_neg (by omega),if_pos rfl,if_pos (by omega),if_pos (by omega)];simp};·by_cases h2:o+i<k∧k<o+i+(vs.length+1);·{rw[if_pos (by omega),if_pos (by omega),show k-(o+i)=(k-(o+(i+1)))+1 by omega,List.getElem?_cons_succ]};·rw[if_neg (by omega),if_neg (by omega),if_neg (by omega)]};rw[e2];unfold jV;simp[Array.setIfInBounds_setIfInBounds]
/-! ### A state -/
structure Env where
 w0:World
 fG:Nat→Prop
 dx:Nat→Prop
 m:Nat
 le:m≤w0.heap.size
 K:Id→Prop:=fun _=>False
 Ce:Id→Option Loc:=fun _=>none
 Cf:∀i,K i→ki i=true:=by exact fun _ h=>h.elim
 ds:List Deferred:=[]
structure Kept(w0 w:World)(fG:Nat→Prop):Prop where
 size:w0.heap.size≤w.heap.size
 dh:∀b,b<w0.heap.size→¬fG b→w.heap[b]? =w0.heap[b]?
 os:w.os=w0.os
 out:w.output=w0.output
 e7:∀a,a.block<w0.heap.size→w.frozen? a=w0.frozen? a
 qx:∀b n,gB w0 b n→gB w b n
theorem Kept.refl(w:World)(F:Nat→Prop):Kept w w F:=⟨Nat.le_refl _,fun _ _ _=>rfl,rfl,rfl,fun _ _=>rfl,fun _ _ h=>h⟩
def aQ(E:Env)(w:World)(F:Id→List Nat)(b:Nat):Prop:=(E.dx b∨E.fG b∨E.w0.heap.size≤b)∧b<w.heap.size∧∀id,b∉F id
def eu(w:World)(I:Nat→Prop)(β:Id→Option Loc)(id:Id)(rows:Rows)(fp:List Nat):Prop:=(β id=some .nil∧rows=[]∧fp=[])∨(∃b,β id=some (.map b)∧fp=[b]∧oA w b rows)∨∃b o sz n vs cT,β id=some (.dh b o sz n)∧fp=b::cT∧gB w b n∧(rows≠[]∧∀r∈rows,r.length=sz)∧o+rows.length*sz≤n∧fQ w b o vs∧aH w I β cT vs rows.flatten
theorem eu.mono{w:World}{I:Nat→Prop}{β:Id→Option Loc}{id:Id}{rows:Rows}{fp:List Nat}(h:eu w I β id rows fp){w':World}{I':Nat→Prop}{β':Id→Option Loc}(hI:∀b,I b→I' b)(hw:∀b,(I b∨b∈fp)→w'.heap[b]? =w.heap[b]?)(bS:∀i l,β i=some l→β' i=some l):eu w' I' β' id rows fp:=by rcases h with⟨h1,h2,h3⟩|⟨b,h1,rfl,h3⟩|⟨b,o,sz,n,vs,cT,h1,rfl,h3,h4,h5,h6,h7⟩;·{exact .inl ⟨bS _ _ h1,h2,h3⟩};·{exact .inr (.inl ⟨b,bS _ _ h1,rfl,h3.mono (hw _ (.inr (List.mem_cons_self ..)))⟩)};·exact .inr (.inr ⟨b,o,sz,n,vs,cT,bS _ _ h1,rfl,h3.mono (hw _ (.inr (List.mem_cons_self ..))),h4,h5,h6.mono (hw _ (.inr (List.mem_cons_self ..))),h7.mono hI (fun x hx=>hw x (hx.imp _root_.id fun h=>List.mem_cons_of_mem _ h)) bS⟩)
theorem eu.isSome{w:World}{I:Nat→Prop}{β:Id→Option Loc}{id:Id}{rows:Rows}{fp:List Nat}(h:eu w I β id rows fp):∃l,β id=some l:=by rcases h with⟨h,_⟩|⟨b,h,_⟩|⟨b,o,sz,n,vs,cT,h,_⟩<;>exact⟨_,h⟩
def GB(D:Nat):Deferred:={target:= .collected D,args:= #[]}
def jX(w:World)(I:Nat→Prop)(d0 ds:List Deferred):Prop:=∃mY:List Nat,ds=mY.map GB++d0∧mY.Nodup∧∀D∈mY,w.heap[D]? =some (.deferred (some []))∧I D
theorem jX.nil{w:World}{I:Nat→Prop}{d0:List Deferred}:jX w I d0 d0:=⟨[],rfl,List.nodup_nil,by simp⟩
theorem jX.mono{w w':World}{I I':Nat→Prop}{d0 ds:List Deferred}(h:jX w I d0 ds)(hI:∀b,I b→I' b)(hw:∀b,I b→w'.heap[b]? =w.heap[b]?):jX w' I' d0 ds:=by obtain⟨mY,h1,h2,h3⟩:=h;exact⟨mY,h1,h2,fun D hD=>⟨(hw D (h3 D hD).2).trans (h3 D hD).1,hI D (h3 D hD).2⟩⟩
structure aV(C:aU)(E:Env)(w:World)(S:an)(a:Act)(β:Id→Option Loc)(F:Id→List Nat):Prop where
 n:a.tmps.size=S.n
 df:jX w (fun b=>aQ E w F b∧E.m≤b) E.ds a.defers
 slot:∀t,R w (aQ E w F) β [] (a.tmps.getD t undef) (S.t t)
 obj:∀id rows,S.h id=some (some rows)→eu w (aQ E w F) β id rows (F id)
 dead:∀id,(∀rows,S.h id≠some (some rows))→F id=[]
 nd:∀id,(F id).Nodup
 dK:∀i j b,b∈F i→b∈F j→i=j
 dom:∀id,S.h id=none→β id=none
 lt:∀id b,b∈F id→b<w.heap.size∧(E.fG b∨E.w0.heap.size≤b)
 kept:Kept E.w0 w E.fG
 cP:∀g cs,C.cP g=some cs→R w (aQ E w F) β [] (.pointer (some ⟨g,0,none⟩)) (.ax cs)
 ns:∀t,t<S.n→∀q,¬E.K (q++[t])
 kb:∀k rows,E.K k→S.h k=some (some rows)→β k=E.Ce k
def kI(E:Env)(S S':an):Prop:=∀k rows,E.K k→S'.h k=some (some rows)→∃xT,S.h k=some (some xT)
theorem kI.refl{E:Env}{S S':an}(h:S'.h=S.h):kI E S S':=fun k rows _ hr=>⟨rows,h▸hr⟩
theorem put_defers(a:Act)(d:Option Tmp)(v:Value):(a.put d v).defers=a.defers:=by cases d<;>rfl
theorem yC{w w':World}(hold:∀b,b<w.heap.size→w'.heap[b]? =w.heap[b]?):∀b n,gB w b n→gB w' b n:=fun b n hB=>by refine hB.mono (hold b ?_);obtain⟨c,e,hc,_⟩:=hB;rcases Nat.lt_or_ge b w.heap.size with h|h;·{exact h};·rw[Array.getElem?_eq_none h]at hc;cases hc
theorem aV.DN{C:aU}{E:Env}{w:World}{S:an}{a:Act}{β:Id→Option Loc}{F:Id→List Nat}(h:aV C E w S a β F){w':World}{S':an}{a':Act}{β':Id→Option Loc}{F':Id→List Nat}(ch:Id→Prop)(hn:a'.tmps.size=S'.n)(hsz:w.heap.size≤w'.heap.size)(hos:w'.os=w.os)(hout:w'.output=w.output)(w4:∀x,x.block<w.heap.size→w'.frozen? x=w.frozen? x)(hw:∀b,b<w.heap.size→(∀id,ch id→b∉F id)→w'.heap[b]? =w.heap[b]?)(bS:∀i l,β i=some l→β' i=some l)(hF:∀id b,b∈F' id→(∃i,b∈F i)∨(w.heap.size≤b∧b<w'.heap.size))(hsame:∀id,¬ch id→F' id=F id∧S'.h id=S.h id)(zu:(∀b,aQ E w F b→aQ E w' F' b)→∀id,ch id→∀rows,S'.h id=some (some rows)→eu w' (aQ E w' F') β' id rows (F' id))(M0:∀id,ch id→(∀rows,S'.h id≠some (some rows))→F' id=[])(ct:∀id,ch id→(F' id).Nodup)(za:∀i j b,ch i→b∈F' i→b∈F' j→i=j)(M3:∀id,S'.h id=none→β' id=none)(F4:(∀b,aQ E w F b→aQ E w' F' b)→∀t,(a'.tmps.getD t undef=a.tmps.getD t undef∧S'.t t=S.t t)∨R w' (aQ E w' F') β' [] (a'.tmps.getD t undef) (S'.t t))(hdf:a'.defers=a.defers:=by first|rfl|exact put_defers ..)(fY:∀b n,gB w b n→gB w' b n:=by exact fun _ _ h=>h)(vr:S'.n=S.n:=by rfl)(hok:kI E S S':=by exact kI.refl rfl):aV C E w' S' a' β' F':=by have hI:∀b,aQ E w F b→aQ E w' F' b:=fun b⟨h1,h2,h3⟩=>⟨h1,Nat.lt_of_lt_of_le h2 hsz,fun id hm=>by rcases hF id b hm with⟨i,hi⟩|⟨hge,_⟩;·{exact h3 i hi};·omega⟩;have y5:∀b,aQ E w F b→w'.heap[b]? =w.heap[b]? :=fun b hb=>hw b hb.2.1 fun id _=>hb.2.2 id;refine{n:=hn,df:=hdf▸h.df.mono (fun b hb=>⟨hI b hb.1,hb.2⟩) (fun b hb=>y5 b hb.1),slot:= ?_,obj:= ?_,dead:= ?_,nd:= ?_,dK:= ?_,dom:=M3,lt:= ?_,kept:= ?_,cP:= ?_,ns:=fun t ht=>h.ns t (vr▸ht),kb:=fun k rows hk hr=> ?_};·{intro t;rcases F4 hI t with⟨h1,h2⟩|h1;·{rw[h1,h2];exact(h.slot t).mono hI (fun b hb=>hb.elim (y5 b) (fun hb=>by cases hb)) bS};·exact h1};·{intro id rows hr;by_cases hc:ch id;·{exact zu hI id hc rows hr};·obtain⟨e1,e2⟩:=hsame id hc;rw[e1];rw[e2]at hr;refine(h.obj id rows hr).mono hI (fun b hb=>hb.elim (y5 b) fun hb=> ?_) bS;exact hw b (h.lt id b hb).1 fun j hj hm=>hc (by rw[h.dK id j b hb hm];exact hj)};·{intro id hd;by_cases hc:ch id;·{exact M0 id hc hd};·obtain⟨e1,e2⟩:=hsame id hc;rw[e1];exact h.dead id (by rw[←e2];exact hd)};·{intro id;by_cases hc:ch id;·{exact ct id hc};·rw[(hsame id hc).1];exact h.nd id};·{intro i j b hi hj;by_cases hc:ch i;·{exact za i j b hc hi hj};·by_cases jv:ch j;·{exact(za j i b jv hj hi).symm};·rw[(hsame i hc).1]at hi;rw[(hsame j jv).1]at hj;exact h.dK i j b hi hj};·{intro id b hb;rcases hF id b hb with⟨i,hi⟩|⟨h1,h2⟩;·{exact⟨Nat.lt_of_lt_of_le (h.lt i b hi).1 hsz,(h.lt i b hi).2⟩};·exact⟨h2, .inr (Nat.le_trans h.kept.size h1)⟩};·{refine⟨Nat.le_trans h.kept.size hsz,fun b hb hf=> ?_,hos.trans h.kept.os,hout.trans h.kept.out,fun x hx=>(w4 x (Nat.lt_of_lt_of_le hx h.kept.size)).trans (h.kept.e7 x hx),fun b n hB=>fY b n (h.kept.qx b n hB)⟩;rw[hw b (Nat.lt_of_lt_of_le hb h.kept.size) fun id _ hm=> ?_];·{exact h.kept.dh b hb hf};·rcases(h.lt id b hm).2 with h'|h';·{exact hf h'};·omega};·{intro g cs hg;exact(h.cP g cs hg).mono hI (fun b hb=>hb.elim (y5 b) (fun hb=>by cases hb)) bS};·obtain⟨xT,h0⟩:=hok k rows hk hr;have e:=h.kb k xT hk h0;rw[←e];obtain⟨l,hl⟩:=(h.obj k xT h0).isSome;rw[hl];exact bS k l hl
theorem aV.step{C:aU}{E:Env}{w:World}{S:an}{a:Act}{β:Id→Option Loc}{F:Id→List Nat}(h:aV C E w S a β F){w':World}{S':an}{a':Act}{β':Id→Option Loc}{F':Id→List Nat}(ch:Id→Prop)(hn:a'.tmps.size=S'.n)(hsz:w.heap.size≤w'.heap.size)(hos:w'.os=w.os)(hout:w'.output=w.output)(w4:∀x,w'.frozen? x=w.frozen? x)(hw:∀b,b<w.heap.size→(∀id,ch id→b∉F id)→w'.heap[b]? =w.heap[b]?)(bS:∀i l,β i=some l→β' i=some l)(hF:∀id b,b∈F' id→(∃i,b∈F i)∨(w.heap.size≤b∧b<w'.heap.size))(hsame:∀id,¬ch id→F' id=F id∧S'.h id=S.h id)(zu:(∀b,aQ E w F b→aQ E w' F' b)→∀id,ch id→∀rows,S'.h id=some (some rows)→eu w' (aQ E w' F') β' id rows (F' id))(M0:∀id,ch id→(∀rows,S'.h id≠some (some rows))→F' id=[])(ct:∀id,ch id→(F' id).Nodup)(za:∀i j b,ch i→b∈F' i→b∈F' j→i=j)(M3:∀id,S'.h id=none→β' id=none)(F4:(∀b,aQ E w F b→aQ E w' F' b)→∀t,(a'.tmps.getD t undef=a.tmps.getD t undef∧S'.t t=S.t t)∨R w' (aQ E w' F') β' [] (a'.tmps.getD t undef) (S'.t t))(hdf:a'.defers=a.defers:=by first|rfl|exact put_defers ..)(fY:∀b n,gB w b n→gB w' b n:=by exact fun _ _ h=>h)(vr:S'.n=S.n:=by rfl)(hok:kI E S S':=by exact kI.refl rfl):aV C E w' S' a' β' F':=by exact h.DN ch hn hsz hos hout (fun x _=>w4 x) hw bS hF hsame zu M0 ct za M3 F4 hdf fY vr hok
end Go.Ab
