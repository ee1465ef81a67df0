import Derived.Test.YtbikcahlonfnmaaGreatAbRel
import Derived.Laws.Append
import Derived.Laws.Cells
import Derived.Laws.Rows
import Derived.Laws.World
namespace Go.Ab
open Go
/-! ### Words on worlds -/
theorem lP(b o n:Nat):(⟨b,o,none⟩:Addr).add n=⟨b,o+n,none⟩:=by unfold Addr.add;split<;>simp_all
def over(c:Array Value)(p:Nat)(vs:List Value):Array Value:=⟨c.toList.take p++vs++c.toList.drop (p+vs.length)⟩
def iX(w:World)(b:Nat)(o:Obj):World:={w with heap:=w.heap.setIfInBounds b o}
theorem Jq(c:Array Value)(p:Nat)(vs:List Value)(h:p+vs.length≤c.size):(over c p vs).size=c.size:=by have:c.toList.length=c.size:=by{simp};simp only[over,List.size_toArray,List.length_append,List.length_take,List.length_drop];omega
theorem Uj(c:Array Value)(p:Nat):over c p []=c:=by apply Array.ext';simp[over]
theorem zi(c:Array Value)(p k:Nat)(vs:List Value)(h:p+vs.length≤c.size):(over c p vs)[k]? =if p≤k∧k<p+vs.length then vs[k-p]? else c[k]? :=by have hl:c.toList.length=c.size:=by{simp};have e:(over c p vs)[k]? =(c.toList.take p++vs++c.toList.drop (p+vs.length))[k]? :=by{simp[over]};rw[e];have e2:c[k]? =c.toList[k]? :=by{simp};by_cases h1:k<p;·{rw[if_neg (by omega),List.append_assoc,List.getElem?_append_left (by simp;omega),List.getElem?_take_of_lt h1,e2]};·by_cases h2:k<p+vs.length;·{rw[if_pos ⟨by omega,h2⟩,List.getElem?_append_left (by simp;omega),List.getElem?_append_right (by simp;omega)];simp only[List.length_take];congr 1;omega};·rw[if_neg (by omega),List.getElem?_append_right (by simp;omega),List.getElem?_drop,e2];simp only[List.length_append,List.length_take];congr 1;omega
theorem CL{w:World}{b:Nat}{o:Obj}(h:b<w.heap.size)(k:Nat):(iX w b o).heap[k]? =if k=b then some o else w.heap[k]? :=by simp only[iX,Array.getElem?_setIfInBounds];by_cases hk:k=b;·{subst hk;simp[h]};·rw[if_neg (fun e=>hk e.symm),if_neg hk]
theorem akk{w:World}{b:Nat}{o:Obj}(h:w.heap[b]? =some o):iX w b o=w:=by have hb:b<w.heap.size:=by{rcases Nat.lt_or_ge b w.heap.size with h'|h';·{exact h'};·simp[Array.getElem?_eq_none h']at h};have e:w.heap.setIfInBounds b o=w.heap:=by{apply Array.ext_getElem? ;intro k;rw[Array.getElem?_setIfInBounds];split;·{subst_vars;simp_all};·rfl};simp[iX,e]
theorem lE{w:World}{b:Nat}{o:Obj}(h:w.heap[b]? =some o):b<w.heap.size:=by rcases Nat.lt_or_ge b w.heap.size with h'|h';·{exact h'};·simp[Array.getElem?_eq_none h']at h
theorem akm{w:World}{b o:Nat}{c:Array Value}{e:TypeId}{fr:Nat×Nat}(h:w.heap[b]? =some (.cells c e fr))(v:Value):w.setCell ⟨b,o,none⟩ v=iX w b (.cells (c.setIfInBounds o v) e fr):=by have hb:=lE h;have e1:(w.setCell ⟨b,o,none⟩ v).heap=(iX w b (.cells (c.setIfInBounds o v) e fr)).heap:=by{apply Array.ext_getElem? ;intro k;rw[CL hb];simp only[World.setCell,Array.getElem?_modify];by_cases hk:b=k;·{subst hk;simp[h]};·rw[if_neg hk,if_neg (fun e=>hk e.symm)]};unfold iX at e1⊢;unfold World.setCell at e1⊢;simp only at e1;rw[e1]
def qi(v:Value):Bool:=match v with| .agg _| .tuple _=>false|_=>true
theorem Vg(P:Program)(b o:Nat)(e:TypeId):∀(vs:List Value)(i:Nat)(w:World)(c:Array Value),w.heap[b]? =some (.cells c e (0,0))→o+i+vs.length≤c.size→(∀v∈vs,qi v=true)→(storeCells ⟨b,o,none⟩ vs i).run P w= .ok () (iX w b (.cells (over c (o+i) vs) e (0,0))):=by intro vs;induction vs with|nil=>(intro i w c h _ _;rw[Uj,akk h];rfl)|cons v vs ih=>intro i w c h hl hp;have hv:=hp v (List.mem_cons_self ..);have hb:=lE h;have hc:w.cell? ⟨b,o+i,none⟩=some (c[o+i]'(by simp at hl;omega)):=by{rw[cell_of_row w b (o+i) c e (0,0) h,Array.getElem?_eq_getElem]};have hf:w.frozen? ⟨b,o+i,none⟩=false:=frozen_of_row w b (o+i) c e h;have hst:(store ⟨b,o+i,none⟩ v).run P w= .ok () (iX w b (.cells (c.setIfInBounds (o+i) v) e (0,0))):=by{rw[←akm h];unfold Go.store;cases v<;>simp_all[Sem.run,qi]};have hg:(iX w b (.cells (c.setIfInBounds (o+i) v) e (0,0))).heap[b]? =some (.cells (c.setIfInBounds (o+i) v) e (0,0)):=by{rw[CL hb,if_pos rfl]};have:=ih (i+1) _ _ hg (by simp at hl⊢;omega) (fun v hv=>hp v (List.mem_cons_of_mem _ hv));have e0:storeCells ⟨b,o,none⟩ (v::vs) i=(do store ((⟨b,o,none⟩:Addr).add i) v;storeCells ⟨b,o,none⟩ vs (i+1)):=rfl;rw[e0,Sem.run_bind,lP,hst,Result.andThen_ok,this];congr 1;have e2:over (c.setIfInBounds (o+i) v) (o+(i+1)) vs=over c (o+i) (v::vs):=by{apply Array.ext_getElem? ;intro k;rw[zi _ _ _ _ (by simp at hl⊢;omega),zi _ _ _ _ (by simp at hl⊢;omega),Array.getElem?_setIfInBounds];simp only[List.length_cons];by_cases h1:k=o+i;·{subst h1;simp only[List.length_cons]at hl;rw[if_neg (by omega),if_pos rfl,if_pos (by omega),if_pos (by omega)];simp};·by_cases h2:o+i<k∧k<o+i+(vs.length+1);·{rw[if_pos (by omega),if_pos (by omega),show k-(o+i)=(k-(o+(i+1)))+1 by omega,List.getElem?_cons_succ]};·rw[if_neg (by omega),if_neg (by omega),if_neg (by omega)]};rw[e2];unfold iX;simp[Array.setIfInBounds_setIfInBounds]
/-! ### A state -/
structure Env where
  w0 : World
  fc : Nat → Prop
  c5 : Nat → Prop
  m : Nat
  le : m ≤ w0.heap.size
  K : Id → Prop := fun _ => False
  BE : Id → Option Loc := fun _ => none
  BF : ∀ i, K i → jl i = true := by exact fun _ h => h.elim
  ds : List Deferred := []
structure Kept (w0 w : World) (fc : Nat → Prop) : Prop where
  size : w0.heap.size ≤ w.heap.size
  cX : ∀ b, b < w0.heap.size → ¬ fc b → w.heap[b]? = w0.heap[b]?
  os : w.os = w0.os
  out : w.output = w0.output
  eR : ∀ a, a.block < w0.heap.size → w.frozen? a = w0.frozen? a
  o8 : ∀ b n, fW w0 b n → fW w b n
theorem Kept.refl(w:World)(F:Nat→Prop):Kept w w F:=⟨Nat.le_refl _,fun _ _ _=>rfl,rfl,rfl,fun _ _=>rfl,fun _ _ h=>h⟩
def aK(E:Env)(w:World)(F:Id→List Nat)(b:Nat):Prop:=(E.c5 b∨E.fc b∨E.w0.heap.size≤b)∧b<w.heap.size∧∀id,b∉F id
def dU(w:World)(I:Nat→Prop)(β:Id→Option Loc)(id:Id)(rows:Rows)(fp:List Nat):Prop:=(β id=some .nil∧rows=[]∧fp=[])∨(∃b,β id=some (.map b)∧fp=[b]∧nr w b rows)∨∃b o sz n vs cG,β id=some (.cX b o sz n)∧fp=b::cG∧fW w b n∧(rows≠[]∧∀r∈rows,r.length=sz)∧o+rows.length*sz≤n∧fo w b o vs∧aG w I β cG vs rows.flatten
theorem dU.mono{w:World}{I:Nat→Prop}{β:Id→Option Loc}{id:Id}{rows:Rows}{fp:List Nat}(h:dU w I β id rows fp){w':World}{I':Nat→Prop}{β':Id→Option Loc}(hI:∀b,I b→I' b)(hw:∀b,(I b∨b∈fp)→w'.heap[b]? =w.heap[b]?)(bK:∀i l,β i=some l→β' i=some l):dU w' I' β' id rows fp:=by rcases h with⟨h1,h2,h3⟩|⟨b,h1,rfl,h3⟩|⟨b,o,sz,n,vs,cG,h1,rfl,h3,h4,h5,h6,h7⟩;·{exact .inl ⟨bK _ _ h1,h2,h3⟩};·{exact .inr (.inl ⟨b,bK _ _ h1,rfl,h3.mono (hw _ (.inr (List.mem_cons_self ..)))⟩)};·exact .inr (.inr ⟨b,o,sz,n,vs,cG,bK _ _ h1,rfl,h3.mono (hw _ (.inr (List.mem_cons_self ..))),h4,h5,h6.mono (hw _ (.inr (List.mem_cons_self ..))),h7.mono hI (fun x hx=>hw x (hx.imp _root_.id fun h=>List.mem_cons_of_mem _ h)) bK⟩)
theorem dU.isSome{w:World}{I:Nat→Prop}{β:Id→Option Loc}{id:Id}{rows:Rows}{fp:List Nat}(h:dU w I β id rows fp):∃l,β id=some l:=by rcases h with⟨h,_⟩|⟨b,h,_⟩|⟨b,o,sz,n,vs,cG,h,_⟩<;>exact⟨_,h⟩
def Fz(D:Nat):Deferred:={target:= .collected D,args:= #[]}
def iZ(w:World)(I:Nat→Prop)(d0 ds:List Deferred):Prop:=∃lO:List Nat,ds=lO.map Fz++d0∧lO.Nodup∧∀D∈lO,w.heap[D]? =some (.deferred (some []))∧I D
theorem iZ.nil{w:World}{I:Nat→Prop}{d0:List Deferred}:iZ w I d0 d0:=⟨[],rfl,List.nodup_nil,by simp⟩
theorem iZ.mono{w w':World}{I I':Nat→Prop}{d0 ds:List Deferred}(h:iZ w I d0 ds)(hI:∀b,I b→I' b)(hw:∀b,I b→w'.heap[b]? =w.heap[b]?):iZ w' I' d0 ds:=by obtain⟨lO,h1,h2,h3⟩:=h;exact⟨lO,h1,h2,fun D hD=>⟨(hw D (h3 D hD).2).trans (h3 D hD).1,hI D (h3 D hD).2⟩⟩
structure aR (C : aO) (E : Env) (w : World) (S : ak) (a : Act) (β : Id → Option Loc) (F : Id → List Nat) : Prop where
  n : a.tmps.size = S.n
  df : iZ w (fun b => aK E w F b ∧ E.m ≤ b) E.ds a.defers
  slot : ∀ t, R w (aK E w F) β [] (a.tmps.getD t undef) (S.t t)
  obj : ∀ id rows, S.h id = some (some rows) → dU w (aK E w F) β id rows (F id)
  dead : ∀ id, (∀ rows, S.h id ≠ some (some rows)) → F id = []
  nd : ∀ id, (F id).Nodup
  dx : ∀ i j b, b ∈ F i → b ∈ F j → i = j
  dom : ∀ id, S.h id = none → β id = none
  lt : ∀ id b, b ∈ F id → b < w.heap.size ∧ (E.fc b ∨ E.w0.heap.size ≤ b)
  kept : Kept E.w0 w E.fc
  cC : ∀ g cs, C.cC g = some cs → R w (aK E w F) β [] (.pointer (some ⟨g, 0, none⟩)) (.aq cs)
  ns : ∀ t, t < S.n → ∀ q, ¬ E.K (q ++ [t])
  kb : ∀ k rows, E.K k → S.h k = some (some rows) → β k = E.BE k
def jB(E:Env)(S S':ak):Prop:=∀k rows,E.K k→S'.h k=some (some rows)→∃wK,S.h k=some (some wK)
theorem jB.refl{E:Env}{S S':ak}(h:S'.h=S.h):jB E S S':=fun k rows _ hr=>⟨rows,h▸hr⟩
theorem put_defers(a:Act)(d:Option Tmp)(v:Value):(a.put d v).defers=a.defers:=by cases d<;>rfl
theorem xF{w w':World}(hold:∀b,b<w.heap.size→w'.heap[b]? =w.heap[b]?):∀b n,fW w b n→fW w' b n:=fun b n hB=>by refine hB.mono (hold b ?_);obtain⟨c,e,hc,_⟩:=hB;rcases Nat.lt_or_ge b w.heap.size with h|h;·{exact h};·rw[Array.getElem?_eq_none h]at hc;cases hc
theorem aR.CS{C:aO}{E:Env}{w:World}{S:ak}{a:Act}{β:Id→Option Loc}{F:Id→List Nat}(h:aR C E w S a β F){w':World}{S':ak}{a':Act}{β':Id→Option Loc}{F':Id→List Nat}(ch:Id→Prop)(hn:a'.tmps.size=S'.n)(hsz:w.heap.size≤w'.heap.size)(hos:w'.os=w.os)(hout:w'.output=w.output)(vr:∀x,x.block<w.heap.size→w'.frozen? x=w.frozen? x)(hw:∀b,b<w.heap.size→(∀id,ch id→b∉F id)→w'.heap[b]? =w.heap[b]?)(bK:∀i l,β i=some l→β' i=some l)(hF:∀id b,b∈F' id→(∃i,b∈F i)∨(w.heap.size≤b∧b<w'.heap.size))(hsame:∀id,¬ch id→F' id=F id∧S'.h id=S.h id)(yC:(∀b,aK E w F b→aK E w' F' b)→∀id,ch id→∀rows,S'.h id=some (some rows)→dU w' (aK E w' F') β' id rows (F' id))(LY:∀id,ch id→(∀rows,S'.h id≠some (some rows))→F' id=[])(cm:∀id,ch id→(F' id).Nodup)(yh:∀i j b,ch i→b∈F' i→b∈F' j→i=j)(L0:∀id,S'.h id=none→β' id=none)(E1:(∀b,aK E w F b→aK E w' F' b)→∀t,(a'.tmps.getD t undef=a.tmps.getD t undef∧S'.t t=S.t t)∨R w' (aK E w' F') β' [] (a'.tmps.getD t undef) (S'.t t))(hdf:a'.defers=a.defers:=by first|rfl|exact put_defers ..)(fC:∀b n,fW w b n→fW w' b n:=by exact fun _ _ h=>h)(tJ:S'.n=S.n:=by rfl)(hok:jB E S S':=by exact jB.refl rfl):aR C E w' S' a' β' F':=by have hI:∀b,aK E w F b→aK E w' F' b:=fun b⟨h1,h2,h3⟩=>⟨h1,Nat.lt_of_lt_of_le h2 hsz,fun id hm=>by rcases hF id b hm with⟨i,hi⟩|⟨hge,_⟩;·{exact h3 i hi};·omega⟩;have yc:∀b,aK E w F b→w'.heap[b]? =w.heap[b]? :=fun b hb=>hw b hb.2.1 fun id _=>hb.2.2 id;refine{n:=hn,df:=hdf▸h.df.mono (fun b hb=>⟨hI b hb.1,hb.2⟩) (fun b hb=>yc b hb.1),slot:= ?_,obj:= ?_,dead:= ?_,nd:= ?_,dx:= ?_,dom:=L0,lt:= ?_,kept:= ?_,cC:= ?_,ns:=fun t ht=>h.ns t (tJ▸ht),kb:=fun k rows hk hr=> ?_};·{intro t;rcases E1 hI t with⟨h1,h2⟩|h1;·{rw[h1,h2];exact(h.slot t).mono hI (fun b hb=>hb.elim (yc b) (fun hb=>by cases hb)) bK};·exact h1};·{intro id rows hr;by_cases hc:ch id;·{exact yC hI id hc rows hr};·obtain⟨e1,e2⟩:=hsame id hc;rw[e1];rw[e2]at hr;refine(h.obj id rows hr).mono hI (fun b hb=>hb.elim (yc b) fun hb=> ?_) bK;exact hw b (h.lt id b hb).1 fun j hj hm=>hc (by rw[h.dx id j b hb hm];exact hj)};·{intro id hd;by_cases hc:ch id;·{exact LY id hc hd};·obtain⟨e1,e2⟩:=hsame id hc;rw[e1];exact h.dead id (by rw[←e2];exact hd)};·{intro id;by_cases hc:ch id;·{exact cm id hc};·rw[(hsame id hc).1];exact h.nd id};·{intro i j b hi hj;by_cases hc:ch i;·{exact yh i j b hc hi hj};·by_cases jh:ch j;·{exact(yh j i b jh hj hi).symm};·rw[(hsame i hc).1]at hi;rw[(hsame j jh).1]at hj;exact h.dx i j b hi hj};·{intro id b hb;rcases hF id b hb with⟨i,hi⟩|⟨h1,h2⟩;·{exact⟨Nat.lt_of_lt_of_le (h.lt i b hi).1 hsz,(h.lt i b hi).2⟩};·exact⟨h2, .inr (Nat.le_trans h.kept.size h1)⟩};·{refine⟨Nat.le_trans h.kept.size hsz,fun b hb hf=> ?_,hos.trans h.kept.os,hout.trans h.kept.out,fun x hx=>(vr x (Nat.lt_of_lt_of_le hx h.kept.size)).trans (h.kept.eR x hx),fun b n hB=>fC b n (h.kept.o8 b n hB)⟩;rw[hw b (Nat.lt_of_lt_of_le hb h.kept.size) fun id _ hm=> ?_];·{exact h.kept.cX b hb hf};·rcases(h.lt id b hm).2 with h'|h';·{exact hf h'};·omega};·{intro g cs hg;exact(h.cC g cs hg).mono hI (fun b hb=>hb.elim (yc b) (fun hb=>by cases hb)) bK};·obtain⟨wK,h0⟩:=hok k rows hk hr;have e:=h.kb k wK hk h0;rw[←e];obtain⟨l,hl⟩:=(h.obj k wK h0).isSome;rw[hl];exact bK k l hl
theorem aR.step{C:aO}{E:Env}{w:World}{S:ak}{a:Act}{β:Id→Option Loc}{F:Id→List Nat}(h:aR C E w S a β F){w':World}{S':ak}{a':Act}{β':Id→Option Loc}{F':Id→List Nat}(ch:Id→Prop)(hn:a'.tmps.size=S'.n)(hsz:w.heap.size≤w'.heap.size)(hos:w'.os=w.os)(hout:w'.output=w.output)(vr:∀x,w'.frozen? x=w.frozen? x)(hw:∀b,b<w.heap.size→(∀id,ch id→b∉F id)→w'.heap[b]? =w.heap[b]?)(bK:∀i l,β i=some l→β' i=some l)(hF:∀id b,b∈F' id→(∃i,b∈F i)∨(w.heap.size≤b∧b<w'.heap.size))(hsame:∀id,¬ch id→F' id=F id∧S'.h id=S.h id)(yC:(∀b,aK E w F b→aK E w' F' b)→∀id,ch id→∀rows,S'.h id=some (some rows)→dU w' (aK E w' F') β' id rows (F' id))(LY:∀id,ch id→(∀rows,S'.h id≠some (some rows))→F' id=[])(cm:∀id,ch id→(F' id).Nodup)(yh:∀i j b,ch i→b∈F' i→b∈F' j→i=j)(L0:∀id,S'.h id=none→β' id=none)(E1:(∀b,aK E w F b→aK E w' F' b)→∀t,(a'.tmps.getD t undef=a.tmps.getD t undef∧S'.t t=S.t t)∨R w' (aK E w' F') β' [] (a'.tmps.getD t undef) (S'.t t))(hdf:a'.defers=a.defers:=by first|rfl|exact put_defers ..)(fC:∀b n,fW w b n→fW w' b n:=by exact fun _ _ h=>h)(tJ:S'.n=S.n:=by rfl)(hok:jB E S S':=by exact jB.refl rfl):aR C E w' S' a' β' F':=by exact h.CS ch hn hsz hos hout (fun x _=>vr x) hw bK hF hsame yC LY cm yh L0 E1 hdf fC tJ hok
end Go.Ab
