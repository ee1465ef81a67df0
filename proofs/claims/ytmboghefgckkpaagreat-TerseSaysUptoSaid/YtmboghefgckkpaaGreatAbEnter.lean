import Derived.Test.YtmboghefgckkpaaGreatAbImp
namespace Go.Ab
open Go
def xA:List Nat→List aa→List (Id×Option Rows)|s::l,v::vs=>(imp [s] v).2++xA l vs|_,_=>[]
theorem AV(h:Id→Option (Option Rows))(b:List (Id×Option Rows)):∀a,bD h (a++b)=bD (bD h b) a|[]=>rfl|(i,r)::l=>by simp[bD,AV h b l]
theorem GC(n:Nat):∀(slots:List Nat)(cr:List aa),(aG n slots cr).h=bD (fun _=>none) (xA slots cr)|[],_=>rfl|_::_,[]=>rfl|s::l,v::vs=>by simp[aG,xA,AV,GC n l vs]
theorem Co(n:Nat):∀(slots:List Nat)(cr:List aa),(aG n slots cr).n=n|[],_=>rfl|_::_,[]=>rfl|s::l,v::vs=>rfl
theorem UW(n:Nat):∀(slots:List Nat)(cr:List aa)(t:Nat),t∉slots→(aG n slots cr).t t= .bH|[],_,_,_=>rfl|_::_,[],_,_=>rfl|s::l,v::vs,t,h=>by have h1:t≠s:=fun e=>h (by simp[e]);have h2:t∉l:=fun e=>h (by simp[e]);simp only[aG,aC,h1,if_false];exact UW n l vs t h2
section
variable{w:World}{I:Nat→Prop}
theorem Uh(p:Id){a:aa}{f:List Nat}{v:Value}(h:R w I cv f v a)(ct:f.Nodup):∀x∈(imp p a).2,∃q,x.1=q++p:=by obtain⟨_,_,_,_,_,_,_,_,a7⟩:=Gj p h ct (fun _ _=>rfl);exact a7
theorem UT(n:Nat)(g:Nat→Value):∀{slots:List Nat}{cr:List aa}{f:List Nat},aH w I cv f (slots.map g) cr→slots.Nodup→f.Nodup→hN w I cv f (fun i=>∃q s,s∈slots∧i=q++[s]) (fun β'=>∀s∈slots,R w I β' [] (g s) ((aG n slots cr).t s)) (xA slots cr)|[],_,_,_,_,_=> .zero (fun s hs=>by cases hs)|s::l,cr,f,h,hs,hf=>by cases h with| @cons _ f1 f2 _ _ v vs h1 h2=>have qd:f2.Nodup:=(List.nodup_append.1 hf).2.1;have tW:f1.Nodup:=(List.nodup_append.1 hf).1;have wW:∀b,b∈f1→b∈f2→False:=fun b hb hb'=>(List.nodup_append.1 hf).2.2 b hb b hb' rfl;have gG:s∉l:=(List.nodup_cons.1 hs).1;have ih:=UT n g h2 (List.nodup_cons.1 hs).2 qd;refine(hN.join (Bb:=fun i=>∃q,i=q++[s]) (Lr:=fun β'=>R w I β' [] (g s) (imp [s] v).1) (l1:=(imp [s] v).2) ih (fun fF up hfr=>Gj [s] (h1.mono (fun _ h=>h) (fun _ _=>rfl) up) tW hfr) (fun _ _=>rfl) (Uh [s] h1 tW) ?_ wW ?_).weak (fun _ h=>h) ?_ ?_;·{rintro i⟨q,rfl⟩⟨q',s',hs',e⟩;have:=(List.append_inj' e rfl).2;simp at this;subst this;exact gG hs'};·{intro fF c7 up h s' hs';exact(h s' hs').mono (fun _ h=>h) (fun _ _=>rfl) up};·{rintro i(⟨q,rfl⟩|⟨q,s',hs',rfl⟩);·{exact⟨q,s,List.mem_cons_self ..,rfl⟩};·exact⟨q,s',List.mem_cons_of_mem _ hs',rfl⟩};·intro β' _⟨r1,r2⟩s' hs';rcases List.mem_cons.1 hs' with rfl|hs';·{simpa[aG,aC]using r1};·have hne:s'≠s:=fun e=>gG (e▸hs');simpa[aG,aC,hne]using r2 s' hs'
theorem aV.enter{C:aU}{E:Env}{a:Act}{n:Nat}{slots:List Nat}{cr:List aa}{f:List Nat}(hn:a.tmps.size=n)(hdf:jX w (fun b=>I b∧E.m≤b) E.ds a.defers)(hr:aH w I cv f (slots.map (a.tmps.getD · undef)) cr)(hs:slots.Nodup)(hf:f.Nodup)
  (hI:∀b,I b→(E.dx b∨E.fG b∨E.w0.heap.size≤b)∧b<w.heap.size∧b∉f)(hlt:∀b∈f,b<w.heap.size∧(E.fG b∨E.w0.heap.size≤b))(hk:Kept E.w0 w E.fG)
  (hg:∀g cs,C.cP g=some cs→R w I cv [] (.pointer (some ⟨g,0,none⟩)) (.ax cs))(xh:∀t,t<n→∀q,¬E.K (q++[t]):=by exact fun _ _ _ h=>h.elim)(NG:∀s∈slots,∀q,¬E.K (q++[s]):=by exact fun _ _ _ h=>h.elim):bO C E (aG n slots cr) a w:=by
 obtain⟨β',G,a1,a2,a3,a4,a5,a6,a7⟩:=UT n (a.tmps.getD · undef) hr hs hf
 have p6:∀b,I b→aQ E w G b:=fun b hb=>⟨(hI b hb).1,(hI b hb).2.1,fun id hm=>(hI b hb).2.2 ((a5 id).2 b hm)⟩
 refine⟨β',G,{n:=by rw[Co];exact hn,df:=hdf.mono (fun b hb=>⟨p6 b hb.1,hb.2⟩) (fun _ _=>rfl),slot:= ?_,obj:= ?_,dead:= ?_,nd:=fun id=>(a5 id).1,dK:=a6,dom:= ?_,lt:=fun id b hb=>hlt b ((a5 id).2 b hb),kept:=hk,cP:=fun g cs h=>(hg g cs h).mono p6 (fun _ _=>rfl) z1,ns:=fun t ht=>xh t (by rw[Co]at ht;exact ht),kb:=fun k rows hk hr=> ?_}⟩
 ·intro t
  by_cases ht:t∈slots
  ·exact(a3 t ht).mono p6 (fun _ _=>rfl) (fun _ _ h=>h)
  ·rw[UW n slots cr t ht];exact .bH
 ·intro id rows h
  rw[GC]at h
  rcases gy (fun _=>none) (xA slots cr) id with⟨x,hx,rfl,e⟩|⟨_,e⟩
  ·obtain⟨bB,e',h'⟩:=a4 x hx
   rw[e,e']at h
   simp at h;subst h
   exact h'.mono p6 (fun _ _=>rfl) (fun _ _ h=>h)
  ·rw[e]at h;cases h
 ·intro id h
  rw[GC]at h
  rcases gy (fun _=>none) (xA slots cr) id with⟨x,hx,rfl,e⟩|⟨hx,e⟩
  ·obtain⟨bB,e',h'⟩:=a4 x hx
   rw[e,e']at h
   exact absurd rfl (h bB)
  ·exact(a2 id hx).2
 ·intro id h
  rw[GC]at h
  rcases gy (fun _=>none) (xA slots cr) id with⟨x,hx,rfl,e⟩|⟨hx,e⟩
  ·rw[e]at h;cases h
  ·exact(a2 id hx).1
 ·rw[GC]at hr
  rcases gy (fun _=>none) (xA slots cr) k with⟨x,hx,rfl,e⟩|⟨hx,e⟩
  ·obtain⟨q,s,hs',e'⟩:=a7 x hx
   rw[e']at hk
   exact absurd hk (NG s hs' q)
  ·rw[e]at hr;cases hr
structure gj(l:List Nat):Prop where
 nd:l.Nodup
 no:kj∉l
theorem gj.nil:gj []:=⟨List.nodup_nil,by simp⟩
theorem NY(q:Id)(s:Nat):ki (q++[s])=(s==kj):=by induction q with|nil=>(rfl)|cons a q ih=>cases q with|nil=>(rfl)|cons b q=>exact ih
theorem gj.GG{E:Env}{l:List Nat}(h:gj l):∀s∈l,∀q,¬E.K (q++[s]):=fun s hs q hk=>by have:=E.Cf _ hk;rw[NY,beq_iff_eq]at this;exact h.no (this▸hs)
end
end Go.Ab
