import Derived.Test.YtbhpblokoecoaaaAbImp
namespace Go.Ab
open Go
def xe:List Nat→List aa→List (Id×Option Rows)|s::l,v::vs=>(imp [s] v).2++xe l vs|_,_=>[]
theorem Li(h:Id→Option (Option Rows))(b:List (Id×Option Rows)):∀a,bL h (a++b)=bL (bL h b) a|[]=>rfl|(i,r)::l=>by simp[bL,Li h b l]
theorem Gg(n:Nat):∀(slots:List Nat)(cc:List aa),(aF n slots cc).h=bL (fun _=>none) (xe slots cc)|[],_=>rfl|_::_,[]=>rfl|s::l,v::vs=>by simp[aF,xe,Li,Gg n l vs]
theorem Dl(n:Nat):∀(slots:List Nat)(cc:List aa),(aF n slots cc).n=n|[],_=>rfl|_::_,[]=>rfl|s::l,v::vs=>rfl
theorem PY(n:Nat):∀(slots:List Nat)(cc:List aa)(t:Nat),t∉slots→(aF n slots cc).t t= .bX|[],_,_,_=>rfl|_::_,[],_,_=>rfl|s::l,v::vs,t,h=>by have h1:t≠s:=fun e=>h (by simp[e]);have h2:t∉l:=fun e=>h (by simp[e]);simp only[aF,aE,h1,if_false];exact PY n l vs t h2
section
variable{w:World}{I:Nat→Prop}
theorem abd(p:Id){a:aa}{f:List Nat}{v:Value}(h:R w I cl f v a)(cD:f.Nodup):∀x∈(imp p a).2,∃q,x.1=q++p:=by obtain⟨_,_,_,_,_,_,_,_,a7⟩:=F2 p h cD (fun _ _=>rfl);exact a7
theorem PW(n:Nat)(g:Nat→Value):∀{slots:List Nat}{cc:List aa}{f:List Nat},aJ w I cl f (slots.map g) cc→slots.Nodup→f.Nodup→gn w I cl f (fun i=>∃q s,s∈slots∧i=q++[s]) (fun β'=>∀s∈slots,R w I β' [] (g s) ((aF n slots cc).t s)) (xe slots cc)|[],_,_,_,_,_=> .zero (fun s hs=>by cases hs)|s::l,cc,f,h,hs,hf=>by cases h with| @cons _ f1 f2 _ _ v vs h1 h2=>have p4:f2.Nodup:=(List.nodup_append.1 hf).2.1;have q9:f1.Nodup:=(List.nodup_append.1 hf).1;have uo:∀b,b∈f1→b∈f2→False:=fun b hb hb'=>(List.nodup_append.1 hf).2.2 b hb b hb' rfl;have jH:s∉l:=(List.nodup_cons.1 hs).1;have ih:=PW n g h2 (List.nodup_cons.1 hs).2 p4;refine(gn.join (yy:=fun i=>∃q,i=q++[s]) (Hv:=fun β'=>R w I β' [] (g s) (imp [s] v).1) (l1:=(imp [s] v).2) ih (fun eW up hfr=>F2 [s] (h1.mono (fun _ h=>h) (fun _ _=>rfl) up) q9 hfr) (fun _ _=>rfl) (abd [s] h1 q9) ?_ uo ?_).weak (fun _ h=>h) ?_ ?_;·{rintro i⟨q,rfl⟩⟨q',s',hs',e⟩;have:=(List.append_inj' e rfl).2;simp at this;subst this;exact jH hs'};·{intro eW gA up h s' hs';exact(h s' hs').mono (fun _ h=>h) (fun _ _=>rfl) up};·{rintro i(⟨q,rfl⟩|⟨q,s',hs',rfl⟩);·{exact⟨q,s,List.mem_cons_self ..,rfl⟩};·exact⟨q,s',List.mem_cons_of_mem _ hs',rfl⟩};·intro β' _⟨r1,r2⟩s' hs';rcases List.mem_cons.1 hs' with rfl|hs';·{simpa[aF,aE]using r1};·have hne:s'≠s:=fun e=>jH (e▸hs');simpa[aF,aE,hne]using r2 s' hs'
theorem aY.enter {C : aV} {E : Env} {a : Act} {n : Nat} {slots : List Nat} {cc : List aa} {f : List Nat} (hn : a.tmps.size = n) (hdf : jP w (fun b => I b ∧ E.m ≤ b) a.defers) (hr : aJ w I cl f (slots.map (a.tmps.getD · undef)) cc) (hs : slots.Nodup) (hf : f.Nodup)
    (hI : ∀ b, I b → (E.gm b ∨ E.fS b ∨ E.w0.heap.size ≤ b) ∧ b < w.heap.size ∧ b ∉ f) (hlt : ∀ b ∈ f, b < w.heap.size ∧ (E.fS b ∨ E.w0.heap.size ≤ b)) (hk : Kept E.w0 w E.fS)
    (hg : ∀ g cs, C.cU g = some cs → R w I cl [] (.pointer (some ⟨g, 0, none⟩)) (.au cs)) : bP C E (aF n slots cc) a w := by
  obtain ⟨β', G, a1, a2, a3, a4, a5, a6, a7⟩ := PW n (a.tmps.getD · undef) hr hs hf
  have nP : ∀ b, I b → aT E w G b := fun b hb => ⟨(hI b hb).1, (hI b hb).2.1, fun id hm => (hI b hb).2.2 ((a5 id).2 b hm)⟩
  refine ⟨β', G, { n := by rw [Dl]; exact hn, df := hdf.mono (fun b hb => ⟨nP b hb.1, hb.2⟩) (fun _ _ => rfl), slot := ?_, obj := ?_, dead := ?_, nd := fun id => (a5 id).1, ej := a6, dom := ?_, lt := fun id b hb => hlt b ((a5 id).2 b hb), kept := hk, cU := fun g cs h => (hg g cs h).mono nP (fun _ _ => rfl) zP }⟩
  · intro t
    by_cases ht : t ∈ slots
    · exact (a3 t ht).mono nP (fun _ _ => rfl) (fun _ _ h => h)
    · rw [PY n slots cc t ht]; exact .bX
  · intro id rows h
    rw [Gg] at h
    rcases jc (fun _ => none) (xe slots cc) id with ⟨x, hx, rfl, e⟩ | ⟨_, e⟩
    · obtain ⟨bZ, e', h'⟩ := a4 x hx
      rw [e, e'] at h
      simp at h; subst h
      exact h'.mono nP (fun _ _ => rfl) (fun _ _ h => h)
    · rw [e] at h; cases h
  · intro id h
    rw [Gg] at h
    rcases jc (fun _ => none) (xe slots cc) id with ⟨x, hx, rfl, e⟩ | ⟨hx, e⟩
    · obtain ⟨bZ, e', h'⟩ := a4 x hx
      rw [e, e'] at h
      exact absurd rfl (h bZ)
    · exact (a2 id hx).2
  · intro id h
    rw [Gg] at h
    rcases jc (fun _ => none) (xe slots cc) id with ⟨x, hx, rfl, e⟩ | ⟨hx, e⟩
    · rw [e] at h; cases h
    · exact (a2 id hx).1
end
end Go.Ab
