import Derived.Test.YtbikcahlonfnmaaGreatAbImp
namespace Go.Ab
open Go
def vV:List Nat→List aa→List (Id×Option Rows)|s::l,v::vs=>(imp [s] v).2++vV l vs|_,_=>[]
theorem z9(h:Id→Option (Option Rows))(b:List (Id×Option Rows)):∀a,bw h (a++b)=bw (bw h b) a|[]=>rfl|(i,r)::l=>by simp[bw,z9 h b l]
theorem FA(n:Nat):∀(slots:List Nat)(cg:List aa),(aH n slots cg).h=bw (fun _=>none) (vV slots cg)|[],_=>rfl|_::_,[]=>rfl|s::l,v::vs=>by simp[aH,vV,z9,FA n l vs]
theorem BO(n:Nat):∀(slots:List Nat)(cg:List aa),(aH n slots cg).n=n|[],_=>rfl|_::_,[]=>rfl|s::l,v::vs=>rfl
theorem Tx(n:Nat):∀(slots:List Nat)(cg:List aa)(t:Nat),t∉slots→(aH n slots cg).t t= .bz|[],_,_,_=>rfl|_::_,[],_,_=>rfl|s::l,v::vs,t,h=>by have h1:t≠s:=fun e=>h (by simp[e]);have h2:t∉l:=fun e=>h (by simp[e]);simp only[aH,av,h1,if_false];exact Tx n l vs t h2
section
variable{w:World}{I:Nat→Prop}
theorem SR(p:Id){a:aa}{f:List Nat}{v:Value}(h:R w I cc f v a)(cm:f.Nodup):∀x∈(imp p a).2,∃q,x.1=q++p:=by obtain⟨_,_,_,_,_,_,_,_,a7⟩:=Fg p h cm (fun _ _=>rfl);exact a7
theorem Tv(n:Nat)(g:Nat→Value):∀{slots:List Nat}{cg:List aa}{f:List Nat},aG w I cc f (slots.map g) cg→slots.Nodup→f.Nodup→gB w I cc f (fun i=>∃q s,s∈slots∧i=q++[s]) (fun β'=>∀s∈slots,R w I β' [] (g s) ((aH n slots cg).t s)) (vV slots cg)|[],_,_,_,_,_=> .zero (fun s hs=>by cases hs)|s::l,cg,f,h,hs,hf=>by cases h with| @cons _ f1 f2 _ _ v vs h1 h2=>have oN:f2.Nodup:=(List.nodup_append.1 hf).2.1;have su:f1.Nodup:=(List.nodup_append.1 hf).1;have vn:∀b,b∈f1→b∈f2→False:=fun b hb hb'=>(List.nodup_append.1 hf).2.2 b hb b hb' rfl;have iQ:s∉l:=(List.nodup_cons.1 hs).1;have ih:=Tv n g h2 (List.nodup_cons.1 hs).2 oN;refine(gB.join (At:=fun i=>∃q,i=q++[s]) (Kk:=fun β'=>R w I β' [] (g s) (imp [s] v).1) (l1:=(imp [s] v).2) ih (fun e9 up hfr=>Fg [s] (h1.mono (fun _ h=>h) (fun _ _=>rfl) up) su hfr) (fun _ _=>rfl) (SR [s] h1 su) ?_ vn ?_).weak (fun _ h=>h) ?_ ?_;·{rintro i⟨q,rfl⟩⟨q',s',hs',e⟩;have:=(List.append_inj' e rfl).2;simp at this;subst this;exact iQ hs'};·{intro e9 cQ up h s' hs';exact(h s' hs').mono (fun _ h=>h) (fun _ _=>rfl) up};·{rintro i(⟨q,rfl⟩|⟨q,s',hs',rfl⟩);·{exact⟨q,s,List.mem_cons_self ..,rfl⟩};·exact⟨q,s',List.mem_cons_of_mem _ hs',rfl⟩};·intro β' _⟨r1,r2⟩s' hs';rcases List.mem_cons.1 hs' with rfl|hs';·{simpa[aH,av]using r1};·have hne:s'≠s:=fun e=>iQ (e▸hs');simpa[aH,av,hne]using r2 s' hs'
theorem aR.enter {C : aO} {E : Env} {a : Act} {n : Nat} {slots : List Nat} {cg : List aa} {f : List Nat} (hn : a.tmps.size = n) (hdf : iZ w (fun b => I b ∧ E.m ≤ b) E.ds a.defers) (hr : aG w I cc f (slots.map (a.tmps.getD · undef)) cg) (hs : slots.Nodup) (hf : f.Nodup)
    (hI : ∀ b, I b → (E.c5 b ∨ E.fc b ∨ E.w0.heap.size ≤ b) ∧ b < w.heap.size ∧ b ∉ f) (hlt : ∀ b ∈ f, b < w.heap.size ∧ (E.fc b ∨ E.w0.heap.size ≤ b)) (hk : Kept E.w0 w E.fc)
    (hg : ∀ g cs, C.cC g = some cs → R w I cc [] (.pointer (some ⟨g, 0, none⟩)) (.aq cs)) (vE : ∀ t, t < n → ∀ q, ¬ E.K (q ++ [t]) := by exact fun _ _ _ h => h.elim) (ME : ∀ s ∈ slots, ∀ q, ¬ E.K (q ++ [s]) := by exact fun _ _ _ h => h.elim) : bG C E (aH n slots cg) a w := by
  obtain ⟨β', G, a1, a2, a3, a4, a5, a6, a7⟩ := Tv n (a.tmps.getD · undef) hr hs hf
  have oG : ∀ b, I b → aK E w G b := fun b hb => ⟨(hI b hb).1, (hI b hb).2.1, fun id hm => (hI b hb).2.2 ((a5 id).2 b hm)⟩
  refine ⟨β', G, { n := by rw [BO]; exact hn, df := hdf.mono (fun b hb => ⟨oG b hb.1, hb.2⟩) (fun _ _ => rfl), slot := ?_, obj := ?_, dead := ?_, nd := fun id => (a5 id).1, dx := a6, dom := ?_, lt := fun id b hb => hlt b ((a5 id).2 b hb), kept := hk, cC := fun g cs h => (hg g cs h).mono oG (fun _ _ => rfl) y9, ns := fun t ht => vE t (by rw [BO] at ht; exact ht), kb := fun k rows hk hr => ?_ }⟩
  · intro t
    by_cases ht : t ∈ slots
    · exact (a3 t ht).mono oG (fun _ _ => rfl) (fun _ _ h => h)
    · rw [Tx n slots cg t ht]; exact .bz
  · intro id rows h
    rw [FA] at h
    rcases fU (fun _ => none) (vV slots cg) id with ⟨x, hx, rfl, e⟩ | ⟨_, e⟩
    · obtain ⟨br, e', h'⟩ := a4 x hx
      rw [e, e'] at h
      simp at h; subst h
      exact h'.mono oG (fun _ _ => rfl) (fun _ _ h => h)
    · rw [e] at h; cases h
  · intro id h
    rw [FA] at h
    rcases fU (fun _ => none) (vV slots cg) id with ⟨x, hx, rfl, e⟩ | ⟨hx, e⟩
    · obtain ⟨br, e', h'⟩ := a4 x hx
      rw [e, e'] at h
      exact absurd rfl (h br)
    · exact (a2 id hx).2
  · intro id h
    rw [FA] at h
    rcases fU (fun _ => none) (vV slots cg) id with ⟨x, hx, rfl, e⟩ | ⟨hx, e⟩
    · rw [e] at h; cases h
    · exact (a2 id hx).1
  · rw [FA] at hr
    rcases fU (fun _ => none) (vV slots cg) k with ⟨x, hx, rfl, e⟩ | ⟨hx, e⟩
    · obtain ⟨q, s, hs', e'⟩ := a7 x hx
      rw [e'] at hk
      exact absurd hk (ME s hs' q)
    · rw [e] at hr; cases hr
structure fL (l : List Nat) : Prop where
  nd : l.Nodup
  no : jm ∉ l
theorem fL.nil:fL []:=⟨List.nodup_nil,by simp⟩
theorem MW(q:Id)(s:Nat):jl (q++[s])=(s==jm):=by induction q with|nil=>(rfl)|cons a q ih=>cases q with|nil=>(rfl)|cons b q=>exact ih
theorem fL.FE{E:Env}{l:List Nat}(h:fL l):∀s∈l,∀q,¬E.K (q++[s]):=fun s hs q hk=>by have:=E.BF _ hk;rw[MW,beq_iff_eq]at this;exact h.no (this▸hs)
end
end Go.Ab
